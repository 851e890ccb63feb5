/- The law WeighFinds of the given program: each case is among those of its answers, alone where the plan tells.
Its conditions: none beyond the statement's own. Part 3 of 5 of the proof. -/
import Derived.Deep.RegionHeld3
import Derived.Laws.CopyOwn
import Derived.ChangeArms
import Derived.ChangeSlices
import Derived.SizedLaws
import Derived.Test.YtdbeochifofdoaaKE1
section
/-! weigh.Answers. -/
namespace Go.Proofs.Ytdbeochifofdoaa.X
open Go.RowKit Go.Proofs.YtdbeochifofdoaaW.PrintWords Go.Proofs.YtdbeochifofdoaaW.PrintLast Go.Proofs.YtdbeochifofdoaaW.PrintMore
set_option linter.unusedVariables false
set_option linter.unusedSimpArgs false

section
variable {P : Program} {ops : Array Oper} {Q : Exit → Act → World → Prop}
/-- A load, or another operation that gives a value, in a region of open order. -/
theorem val_ {oi : Oper} {N : Option Tmp} {a : Act} {w : World} {K : Act → World → Prop} {v : Value} (hw : Region.wanted oi (yielded ops a.tmps) = true) (hN : oi.dst = N) (hrun : (execOp a.eval oi).run P w = .ok (.value v) w)
    (h : K (a.put N v) w) : if Region.wanted oi (yielded ops a.tmps) = true then Oper.wp P oi a w K Q else K (a.put N undef) w := by
  rw [if_pos hw]
  unfold Oper.wp
  rw [hrun]
  subst hN
  exact h
end
/-- A mark times a way. -/
def tim3 (m : S70) (k : Int) : S70 := ⟨wrap64 (m.f0 * k), wrap64 (m.f1 * k), wrap64 (m.f2 * k)⟩
def weigh_Answers.f (a0 : Int) (l1 : List S53) (c0 c1 : Int) : Option (List Int × Int) :=
  if cErr a0 l1 [⟨c0, c1⟩] = 0 then some (cut3 l1.length (tim3 ((marksL a0 l1).getD c0.toNat z70) c1), 0) else some ([], cErr a0 l1 [⟨c0, c1⟩])
/-- A case in a block of its own, as a row of one. -/
theorem C35_one {W : World} {g : Nat} {a b : Int} (h : W.heap[g]? = some (.cells #[.int .i64 a, .int .i64 b] 35 (0, 0))) : Kd.C k35 W (some ⟨g, 0, none⟩) 1 [(⟨a, b⟩ : S35)] := by
  refine ⟨rfl, by omega, fun _ => ⟨_, rfl, fun j p hj => ?_⟩⟩
  match j, hj with
  | 0, hj =>
    obtain rfl := Option.some.inj hj
    refine ⟨[.int .i64 a, .int .i64 b], rfl, ⟨[.int .i64 a], [.int .i64 b], rfl, rfl, rfl⟩, fun i u hu => ?_⟩
    rw [add_plain, blk_cell h]
    simpa using hu
  | j + 1, hj => cases hj
theorem cErr_at {lots : Int} {l : List S53} {c0 c1 : Int} (h : cErr lots l [⟨c0, c1⟩] = 0) : pErr lots l = 0 ∧ 0 ≤ c0 ∧ c0 < lots := by
  unfold cErr at h
  by_cases hp : pErr lots l = 0
  · rw [if_pos hp] at h
    refine ⟨hp, ?_⟩
    by_cases h1 : ([(⟨c0, c1⟩ : S35)].any (fun x => !(decide (0 ≤ x.f0) && decide (x.f0 ≤ lots - 1)))) = true
    · rw [if_pos h1] at h; cases h
    · simp at h1
      omega
  · rw [if_neg hp] at h; exact absurd h hp
theorem marksL_len' (lots : Int) (l : List S53) : (marksL lots l).length = lots.toNat := by simp [marksL, rowsOf]
def weigh_Answers.T : Bool × List (List Nat × List Nat) := (true, [([], []), ([], []), ([0, 1], [0, 1]), ([], []), ([3], [3]), ([2, 4], [2, 4]), ([5], [5]), ([], []), ([7], [7]), ([6, 8, 2], [6, 8]), ([], []), ([10, 9, 9, 0, 1, 2, 3, 4, 5, 6, 7, 8, 9, 10], [9, 10])])
def weigh_Answers.B : List Nat := [0, 0, 3, 0, 8, 31, 63, 0, 128, 511, 0, 2047]
theorem weigh_Answers.tab : rtab .any (opsOf Try.f57 4) = weigh_Answers.T := by kernel_rfl
theorem weigh_Answers.bits : waitsOk weigh_Answers.T.2 weigh_Answers.B = true := by kernel_rfl
set_option maxHeartbeats 4000000 in
set_option maxRecDepth 100000 in
theorem weigh_Answers.calls (a0 : Int) (A1 : Option Addr) (c1 : Nat) (l1 : List S53) (b0 b1 : Int) (r1 : List Int) (r2 : Int) (w : World) (hr1 : Kd.C k53 w A1 l1.length l1) (hc1 : l1.length ≤ c1) (h : weigh_Answers.f a0 l1 b0 b1 = some (r1, r2)) :
    Calls Try.prog 57 #[.int .i64 a0, .slice A1 l1.length c1, .agg #[.int .i64 b0, .int .i64 b1]] w fun e w' => ∃ v0_ : Value, e = .returned (.tuple #[v0_, .int .i64 r2]) ∧ Kd.R (Kd.int .i64) 3 w' w.heap.size (fun _ => True) v0_ r1 ∧ Below w.heap.size w w' := by
  have HR := Aside0.mk hr1
  have HC := Aside0.mk hc1
  unfold weigh_Answers.f at h
  obtain ⟨q, hq⟩ : ∃ q, q = cErr a0 l1 [⟨b0, b1⟩] := ⟨_, rfl⟩
  have HF := Aside0.mk (show weigh_cased.f a0 l1 [⟨b0, b1⟩] = some q by rw [hq]; rfl)
  have HQ := Aside0.mk hq
  rw [← hq] at h
  clear hq hr1 hc1
  go_enter Try.func57, Try.ntmps57
  go_wp2_with fail
  have hcC := C35_one (a := b0) (b := b1) (blk_new (w.alloc (.cells #[.int .i64 b0, .int .i64 b1] 35)) (.cells #[.int .i64 b0, .int .i64 b1] 35))
  rw [show (w.alloc (.cells #[.int .i64 b0, .int .i64 b1] 35)).heap.size = w.heap.size + 1 from by simp] at hcC
  refine (weigh_cased.calls a0 A1 c1 l1 _ 1 [⟨b0, b1⟩] q _ (Kd.C_alloc (Kd.C_alloc HR.out _) _) HC.out hcC (by simp) HF.out).mono ?_
  rintro e w1 ⟨rfl, hb⟩
  have HB := Aside0.mk ((below_alloc (below_alloc (Below.refl _ w) (.cells #[.int .i64 b0, .int .i64 b1] 35)) (.cells #[.int .i64 b0, .int .i64 b1] 35)).trans (hb.mono (by simp; omega)))
  have BK := Aside0.mk (blk_below (blk_alloc (blk_new w (.cells #[.int .i64 b0, .int .i64 b1] 35)) (.cells #[.int .i64 b0, .int .i64 b1] 35)) hb)
  clear hb hcC
  by_cases hz : q = 0
  rotate_left
  · rw [if_neg hz] at h
    simp only [Option.some.injEq, Prod.mk.injEq] at h
    obtain ⟨rfl, rfl⟩ := h
    have q1 : (q != 0) = true := by simpa using hz
    go_wp2
    go_ret2
    exact ⟨_, rfl, Kd.R_nil _ _ _ _ _, HB.out⟩
  subst hz
  rw [if_pos rfl] at h
  simp only [Option.some.injEq, Prod.mk.injEq] at h
  obtain ⟨h1, rfl⟩ := h
  obtain ⟨hp, hlo, hhi⟩ := cErr_at HQ.out.symm
  have few := (pErr_ok hp).few
  have HMF := Aside0.mk (show weigh_marks.f a0 l1 = some (marksL a0 l1) by unfold weigh_marks.f; rw [if_pos hp])
  obtain ⟨n0, rfl⟩ := Int.eq_ofNat_of_zero_le hlo
  have hlen : n0 < (marksL a0 l1).length := by rw [marksL_len']; omega
  rw [show ((n0 : Int)).toNat = n0 from rfl] at h1
  generalize marksL a0 l1 = L at *
  have H1 := Aside0.mk h1
  clear h1 hp
  go_wp2
  have HBd := Aside0.mk (below_drew1 HB.out)
  have BKd := Aside0.mk (blk_drew BK.out)
  refine start_ (n := 12) (S := fun w' => w'.cell? ⟨w.heap.size, 0, none⟩ = some (.int .i64 (n0 : Int)) ∧ w'.cell? ⟨w.heap.size, 1, none⟩ = some (.int .i64 b1)) (ds := []) #[false, false, false, false, false, false, false, false, false, false, false, false] (by kernel_rfl) rfl rfl ⟨(blk_cell BKd.out 0).trans rfl, (blk_cell BKd.out 1).trans rfl⟩ (fun hHeld => ?_)
  refine with_tabW weigh_Answers.tab weigh_Answers.bits (fun HT_ HW_ => ?_)
  clear HB BK
  generalize w1.drew = w2 at HBd BKd hHeld ⊢
  refine pure_ (i := 0) (N := some 18) (v := ?_) (a' := ?_) #[true, false, false, false, false, false, false, false, false, false, false, false] rfl rfl (any_of HT_.out (by kernel_rfl)) (fun _ _ _ h => h) (Or.inl ⟨by rfl, ?_⟩) ?_ ?_
  rotate_left
  · intro w'
    go_simp
    with_reducible rfl
  rotate_left
  · simp only [Act.put, List.setIfInBounds_toArray, List.set_cons_zero, List.set_cons_succ, i64_w, i32_w]
    rfl
  refine pure_ (i := 1) (N := some 19) (v := ?_) (a' := ?_) #[true, true, false, false, false, false, false, false, false, false, false, false] rfl rfl (any_of HT_.out (by kernel_rfl)) (fun _ _ _ h => h) (Or.inl ⟨by rfl, ?_⟩) ?_ ?_
  rotate_left
  · intro w'
    go_simp
    with_reducible rfl
  rotate_left
  · simp only [Act.put, List.setIfInBounds_toArray, List.set_cons_zero, List.set_cons_succ, i64_w, i32_w]
    rfl
  refine pure_ (i := 3) (N := some 21) (v := ?_) (a' := ?_) #[true, true, false, true, false, false, false, false, false, false, false, false] rfl rfl (any_of HT_.out (by kernel_rfl)) (fun _ _ _ h => h) (Or.inl ⟨by rfl, ?_⟩) ?_ ?_
  rotate_left
  · intro w'
    go_simp
    with_reducible rfl
  rotate_left
  · simp only [Act.put, List.setIfInBounds_toArray, List.set_cons_zero, List.set_cons_succ, i64_w, i32_w]
    rfl
  refine pure_ (i := 7) (N := some 25) (v := ?_) (a' := ?_) #[true, true, false, true, false, false, false, true, false, false, false, false] rfl rfl (any_of HT_.out (by kernel_rfl)) (fun _ _ _ h => h) (Or.inl ⟨by rfl, ?_⟩) ?_ ?_
  rotate_left
  · intro w'
    go_simp
    with_reducible rfl
  rotate_left
  · simp only [Act.put, List.setIfInBounds_toArray, List.set_cons_zero, List.set_cons_succ, i64_w, i32_w]
    rfl
  refine take_ (i := 4) (N := some 22) (v := ?_) (a' := ?_) #[true, true, false, true, true, false, false, true, false, false, false, false] rfl rfl (take_ofW HT_.out HW_.out (by kernel_rfl)) (fun _ _ _ h => h) (Or.inl ⟨by rfl, ?_⟩) hHeld ?_ ?_
  rotate_left
  · rintro w' ⟨s0, s1⟩
    go_simp
    with_reducible rfl
  rotate_left
  · simp only [Act.put, List.setIfInBounds_toArray, List.set_cons_zero, List.set_cons_succ, i64_w, i32_w]
    rfl
  refine take_ (i := 8) (N := some 26) (v := ?_) (a' := ?_) #[true, true, false, true, true, false, false, true, true, false, false, false] rfl rfl (take_ofW HT_.out HW_.out (by kernel_rfl)) (fun _ _ _ h => h) (Or.inl ⟨by rfl, ?_⟩) hHeld ?_ ?_
  rotate_left
  · rintro w' ⟨s0, s1⟩
    go_simp
    with_reducible rfl
  rotate_left
  · simp only [Act.put, List.setIfInBounds_toArray, List.set_cons_zero, List.set_cons_succ, i64_w, i32_w]
    rfl
  have ltz : ((n0 : Int) < (L.length : Int)) := by omega
  have gez : (0 : Int) ≤ (n0 : Int) := by omega
  obtain ⟨m, hm⟩ : ∃ m, L.getD n0 z70 = m := ⟨_, rfl⟩
  obtain ⟨t0, ht0⟩ : ∃ z, z = wrap64 (m.f0 * b1) := ⟨_, rfl⟩
  obtain ⟨t1, ht1⟩ : ∃ z, z = wrap64 (m.f1 * b1) := ⟨_, rfl⟩
  obtain ⟨t2, ht2⟩ : ∃ z, z = wrap64 (m.f2 * b1) := ⟨_, rfl⟩
  have HTM := Aside0.mk (show weigh_mark_times.f m.f0 m.f1 m.f2 b1 = some (t0, t1, t2) by rw [ht0, ht1, ht2]; rfl)
  have HR1 := Aside0.mk (show r1 = cut3 l1.length ⟨t0, t1, t2⟩ by rw [← H1.out, hm, ht0, ht1, ht2]; rfl)
  have HC1 := HC
  clear HC H1 ht0 ht1 ht2
  have HB := HBd
  clear HBd
  refine join_ (σ := Addr × Nat × Nat) 1 (l' := #[true, true, true, true, true, true, true, true, true, true, true, false]) (fun s => [(20, .slice (some s.1) L.length s.2.1), (23, .pointer (some (s.1.add (n0 * 3)))), (24, .agg #[.int .i64 m.f0, .int .i64 m.f1, .int .i64 m.f2]), (27, .agg #[.int .i64 t0, .int .i64 t1, .int .i64 t2]), (9, .pointer (some ⟨s.2.2, 0, none⟩))])
    (fun s W => (W.cell? ⟨w.heap.size, 0, none⟩ = some (.int .i64 (n0 : Int)) ∧ W.cell? ⟨w.heap.size, 1, none⟩ = some (.int .i64 b1)) ∧ Kd.C k70 W (some s.1) L.length L ∧ W.heap[s.2.2]? = some (.cells #[.int .i64 0, .int .i64 0, .int .i64 0] 70 (0, 0)) ∧ w.heap.size < s.2.2 ∧ s.1.block ≠ s.2.2 ∧ Below w.heap.size w W) ?_ ?_
  rotate_left
  · intro hCont3
    refine join_ (σ := Addr × Nat × Nat) 2 (l' := #[true, true, true, true, true, true, true, true, true, false, true, false]) (fun s => [(20, .slice (some s.1) L.length s.2.1), (23, .pointer (some (s.1.add (n0 * 3)))), (24, .agg #[.int .i64 m.f0, .int .i64 m.f1, .int .i64 m.f2]), (9, .pointer (some ⟨s.2.2, 0, none⟩))])
      (fun s W => (W.cell? ⟨w.heap.size, 0, none⟩ = some (.int .i64 (n0 : Int)) ∧ W.cell? ⟨w.heap.size, 1, none⟩ = some (.int .i64 b1)) ∧ Kd.C k70 W (some s.1) L.length L ∧ W.heap[s.2.2]? = some (.cells #[.int .i64 0, .int .i64 0, .int .i64 0] 70 (0, 0)) ∧ w.heap.size < s.2.2 ∧ s.1.block ≠ s.2.2 ∧ Below w.heap.size w W) ?_ ?_
    rotate_left
    · intro hCont2
      refine join_ (σ := Addr × Nat × Nat) 3 (l' := #[true, true, true, true, true, true, false, true, true, false, true, false]) (fun s => [(20, .slice (some s.1) L.length s.2.1), (23, .pointer (some (s.1.add (n0 * 3)))), (9, .pointer (some ⟨s.2.2, 0, none⟩))])
        (fun s W => (W.cell? ⟨w.heap.size, 0, none⟩ = some (.int .i64 (n0 : Int)) ∧ W.cell? ⟨w.heap.size, 1, none⟩ = some (.int .i64 b1)) ∧ Kd.C k70 W (some s.1) L.length L ∧ W.heap[s.2.2]? = some (.cells #[.int .i64 0, .int .i64 0, .int .i64 0] 70 (0, 0)) ∧ w.heap.size < s.2.2 ∧ s.1.block ≠ s.2.2 ∧ Below w.heap.size w W) ?_ ?_
      rotate_left
      · intro hCont1
        refine two_ (i := 2) (j := 10) (Ni := some 20) (Nj := some 9) #[true, true, true, true, true, false, false, true, true, false, false, false] #[true, true, false, true, true, false, false, true, true, false, true, false] rfl rfl rfl rfl (two_of HT_.out (by kernel_rfl)) (by decide) (by decide) (fun K hK => ?_) (fun K hK => ?_)
        · refine goes_ Try.func90 (by kernel_rfl) rfl #[.int .i64 a0, .slice A1 l1.length c1] (by rfl) rfl rfl (by (try simp only [List.map_toArray, List.map_cons, List.map_nil]); first | done | rfl) ?_
          refine (weigh_marks.calls a0 A1 c1 l1 L _ (Kd.C_below HR.out HB.out) HC1.out HMF.out).mono ?_
          rintro e W ⟨v, rfl, hO, hb⟩
          refine ⟨_, rfl, ?_⟩
          have hS := And.intro ((hb.cell (World.block_lt_of_cell? _ _ hHeld.1)).trans hHeld.1) ((hb.cell (World.block_lt_of_cell? _ _ hHeld.2)).trans hHeld.2)
          obtain ⟨A, c, rfl⟩ := Kd.R_slice hO
          obtain ⟨_, hLc, hC⟩ := Kd.R_reads' hO
          obtain ⟨ad, hA, _⟩ := hC.2.2 (by omega)
          subst hA
          have hltb := Kd.R_lt hO ad.block rfl
          have hgeb := Kd.R_base hO ad.block rfl
          have hlez : ((n0 : Int) ≤ (c : Int)) := by omega
          have HB1 := Aside0.mk (HB.out.trans (hb.mono HB.out.size))
          clear HB
          have HB := HB1
          clear HB1
          have HC := Aside0.mk hC
          clear hC hO hb
          refine hK.out _ _ hS (fun hHeld => ?_)
          clear hK K hS
          refine norm_ (a' := ?_) ?_ ?_
          rotate_left
          · show Act.put _ (some 20) _ = _
            simp only [Act.put, List.setIfInBounds_toArray, List.set_cons_zero, List.set_cons_succ, i64_w, i32_w]
            rfl
          refine pure_ (i := 5) (N := some 23) (v := ?_) (a' := ?_) #[true, true, true, true, true, true, false, true, true, false, false, false] rfl rfl (any_of HT_.out (by kernel_rfl)) (fun _ _ _ h => h) (Or.inl ⟨by rfl, ?_⟩) ?_ ?_
          rotate_left
          · intro w'
            go_simp
            with_reducible rfl
          rotate_left
          · simp only [Act.put, List.setIfInBounds_toArray, List.set_cons_zero, List.set_cons_succ, i64_w, i32_w]
            rfl
          refine two_ (i := 6) (j := 10) (Ni := some 24) (Nj := some 9) #[true, true, true, true, true, true, true, true, true, false, false, false] #[true, true, true, true, true, true, false, true, true, false, true, false] rfl rfl rfl rfl (two_of HT_.out (by kernel_rfl)) (by decide) (by decide) (fun K hK => ?_) (fun K hK => ?_)
          · obtain ⟨ad', e1, hx0, hx1, hx2⟩ := at_T70 HC.out n0 (by omega) ltz
            cases e1
            simp only [Int.toNat_natCast] at hx0 hx1 hx2
            rw [show rd_T70 L (n0 : Int) = L.getD n0 z70 from rfl, hm] at hx0 hx1 hx2
            refine val_ (v := .agg #[.int .i64 m.f0, .int .i64 m.f1, .int .i64 m.f2]) (by rfl) rfl ?_ ?_
            · first | (go_simp; done) | (go_simp; rfl)
            have hS := hHeld
            clear hx0 hx1 hx2
            refine hK.out _ _ hS (fun hHeld => ?_)
            clear hK K hS
            refine norm_ (a' := ?_) ?_ ?_
            rotate_left
            · show Act.put _ (some 24) _ = _
              simp only [Act.put, List.setIfInBounds_toArray, List.set_cons_zero, List.set_cons_succ, i64_w, i32_w]
              rfl
            refine two_ (i := 9) (j := 10) (Ni := some 27) (Nj := some 9) #[true, true, true, true, true, true, true, true, true, true, false, false] #[true, true, true, true, true, true, true, true, true, false, true, false] rfl rfl rfl rfl (two_of HT_.out (by kernel_rfl)) (by decide) (by decide) (fun K hK => ?_) (fun K hK => ?_)
            · refine goes_ Try.func94 (by kernel_rfl) rfl #[.agg #[.int .i64 m.f0, .int .i64 m.f1, .int .i64 m.f2], .int .i64 b1] (by rfl) rfl rfl (by (try simp only [List.map_toArray, List.map_cons, List.map_nil]); first | done | rfl) ?_
              refine (weigh_mark_times.calls m.f0 m.f1 m.f2 b1 t0 t1 t2 _ HTM.out).mono ?_
              rintro e W ⟨rfl, hb⟩
              refine ⟨_, rfl, ?_⟩
              have hS := And.intro ((hb.cell (World.block_lt_of_cell? _ _ hHeld.1)).trans hHeld.1) ((hb.cell (World.block_lt_of_cell? _ _ hHeld.2)).trans hHeld.2)
              have HB1 := Aside0.mk (HB.out.trans (hb.mono HB.out.size))
              have HC1x := Aside0.mk (Kd.C_below HC.out hb)
              clear HB HC
              have HB := HB1
              have HC := HC1x
              clear HB1 HC1x
              have hltb1 : ad.block < W.heap.size := Nat.lt_of_lt_of_le hltb hb.size
              clear hltb
              have hltb := hltb1
              clear hb
              refine hK.out _ _ hS (fun hHeld => ?_)
              clear hK K hS
              refine norm_ (a' := ?_) ?_ ?_
              rotate_left
              · show Act.put _ (some 27) _ = _
                simp only [Act.put, List.setIfInBounds_toArray, List.set_cons_zero, List.set_cons_succ, i64_w, i32_w]
                rfl
              refine one_ (i := 10) (N := some 9) #[true, true, true, true, true, true, true, true, true, true, true, false] rfl rfl (one_of HT_.out (by kernel_rfl)) (by decide) (fun K hK => ?_)
              refine box_step ?hg (N := 9) ?hd (cs := #[.int .i64 0, .int .i64 0, .int .i64 0]) (t := 70) ?hr ?_; (case hd => rfl); (case hg => rfl); (case hr => first | (go_simp; done) | (go_simp; rfl))
              intro g hg W hbox hb
              have hS := And.intro ((hb.cell (World.block_lt_of_cell? _ _ hHeld.1)).trans hHeld.1) ((hb.cell (World.block_lt_of_cell? _ _ hHeld.2)).trans hHeld.2)
              have hgt : w.heap.size < g := by have := World.block_lt_of_cell? _ _ hHeld.1; dsimp only at this; omega
              have HB1 := Aside0.mk (HB.out.trans (hb.mono HB.out.size))
              clear HB
              have HB := HB1
              clear HB1
              have BKg := Aside0.mk hbox
              have HC1 := Aside0.mk (Kd.C_below HC.out hb)
              clear HC
              have HC := HC1
              clear HC1
              have NE : ad.block ≠ g := by omega
              clear hbox hb
              refine hK.out _ _ hS (fun hHeld => ?_)
              clear hK K hS
              refine norm_ (a' := ?_) ?_ ?_
              rotate_left
              · show Act.put _ (some 9) _ = _
                simp only [Act.put, List.setIfInBounds_toArray, List.set_cons_zero, List.set_cons_succ, i64_w, i32_w]
                rfl
              exact norm_ (by simp only [putAll, Act.put, List.setIfInBounds_toArray, List.set_cons_zero, List.set_cons_succ]) (hCont3 (ad, c, g) _ ⟨hHeld, HC.out, BKg.out, hgt, NE, HB.out⟩)
            · refine box_step ?hg (N := 9) ?hd (cs := #[.int .i64 0, .int .i64 0, .int .i64 0]) (t := 70) ?hr ?_; (case hd => rfl); (case hg => rfl); (case hr => first | (go_simp; done) | (go_simp; rfl))
              intro g hg W hbox hb
              have hS := And.intro ((hb.cell (World.block_lt_of_cell? _ _ hHeld.1)).trans hHeld.1) ((hb.cell (World.block_lt_of_cell? _ _ hHeld.2)).trans hHeld.2)
              have hgt : w.heap.size < g := by have := World.block_lt_of_cell? _ _ hHeld.1; dsimp only at this; omega
              have HB1 := Aside0.mk (HB.out.trans (hb.mono HB.out.size))
              clear HB
              have HB := HB1
              clear HB1
              have BKg := Aside0.mk hbox
              have HC1 := Aside0.mk (Kd.C_below HC.out hb)
              clear HC
              have HC := HC1
              clear HC1
              have NE : ad.block ≠ g := by omega
              clear hbox hb
              refine hK.out _ _ hS (fun hHeld => ?_)
              clear hK K hS
              refine norm_ (a' := ?_) ?_ ?_
              rotate_left
              · show Act.put _ (some 9) _ = _
                simp only [Act.put, List.setIfInBounds_toArray, List.set_cons_zero, List.set_cons_succ, i64_w, i32_w]
                rfl
              exact norm_ (by simp only [putAll, Act.put, List.setIfInBounds_toArray, List.set_cons_zero, List.set_cons_succ]) (hCont2 (ad, c, g) _ ⟨hHeld, HC.out, BKg.out, hgt, NE, HB.out⟩)
          · refine box_step ?hg (N := 9) ?hd (cs := #[.int .i64 0, .int .i64 0, .int .i64 0]) (t := 70) ?hr ?_; (case hd => rfl); (case hg => rfl); (case hr => first | (go_simp; done) | (go_simp; rfl))
            intro g hg W hbox hb
            have hS := And.intro ((hb.cell (World.block_lt_of_cell? _ _ hHeld.1)).trans hHeld.1) ((hb.cell (World.block_lt_of_cell? _ _ hHeld.2)).trans hHeld.2)
            have hgt : w.heap.size < g := by have := World.block_lt_of_cell? _ _ hHeld.1; dsimp only at this; omega
            have HB1 := Aside0.mk (HB.out.trans (hb.mono HB.out.size))
            clear HB
            have HB := HB1
            clear HB1
            have BKg := Aside0.mk hbox
            have HC1 := Aside0.mk (Kd.C_below HC.out hb)
            clear HC
            have HC := HC1
            clear HC1
            have NE : ad.block ≠ g := by omega
            clear hbox hb
            refine hK.out _ _ hS (fun hHeld => ?_)
            clear hK K hS
            refine norm_ (a' := ?_) ?_ ?_
            rotate_left
            · show Act.put _ (some 9) _ = _
              simp only [Act.put, List.setIfInBounds_toArray, List.set_cons_zero, List.set_cons_succ, i64_w, i32_w]
              rfl
            exact norm_ (by simp only [putAll, Act.put, List.setIfInBounds_toArray, List.set_cons_zero, List.set_cons_succ]) (hCont1 (ad, c, g) _ ⟨hHeld, HC.out, BKg.out, hgt, NE, HB.out⟩)
        · refine box_step ?hg (N := 9) ?hd (cs := #[.int .i64 0, .int .i64 0, .int .i64 0]) (t := 70) ?hr ?_; (case hd => rfl); (case hg => rfl); (case hr => first | (go_simp; done) | (go_simp; rfl))
          intro g hg W hbox hb
          have hS := And.intro ((hb.cell (World.block_lt_of_cell? _ _ hHeld.1)).trans hHeld.1) ((hb.cell (World.block_lt_of_cell? _ _ hHeld.2)).trans hHeld.2)
          have hgt : w.heap.size < g := by have := World.block_lt_of_cell? _ _ hHeld.1; dsimp only at this; omega
          have HB1 := Aside0.mk (HB.out.trans (hb.mono HB.out.size))
          clear HB
          have HB := HB1
          clear HB1
          have BKg := Aside0.mk hbox
          clear hbox hb
          refine hK.out _ _ hS (fun hHeld => ?_)
          clear hK K hS
          refine norm_ (a' := ?_) ?_ ?_
          rotate_left
          · show Act.put _ (some 9) _ = _
            simp only [Act.put, List.setIfInBounds_toArray, List.set_cons_zero, List.set_cons_succ, i64_w, i32_w]
            rfl
          refine one_ (i := 2) (N := some 20) #[true, true, true, true, true, false, false, true, true, false, true, false] rfl rfl (one_of HT_.out (by kernel_rfl)) (by decide) (fun K hK => ?_)
          refine goes_ Try.func90 (by kernel_rfl) rfl #[.int .i64 a0, .slice A1 l1.length c1] (by rfl) rfl rfl (by (try simp only [List.map_toArray, List.map_cons, List.map_nil]); first | done | rfl) ?_
          refine (weigh_marks.calls a0 A1 c1 l1 L _ (Kd.C_below HR.out HB.out) HC1.out HMF.out).mono ?_
          rintro e W ⟨v, rfl, hO, hb⟩
          refine ⟨_, rfl, ?_⟩
          have hS := And.intro ((hb.cell (World.block_lt_of_cell? _ _ hHeld.1)).trans hHeld.1) ((hb.cell (World.block_lt_of_cell? _ _ hHeld.2)).trans hHeld.2)
          obtain ⟨A, c, rfl⟩ := Kd.R_slice hO
          obtain ⟨_, hLc, hC⟩ := Kd.R_reads' hO
          obtain ⟨ad, hA, _⟩ := hC.2.2 (by omega)
          subst hA
          have hltb := Kd.R_lt hO ad.block rfl
          have hgeb := Kd.R_base hO ad.block rfl
          have hlez : ((n0 : Int) ≤ (c : Int)) := by omega
          have HB1 := Aside0.mk (HB.out.trans (hb.mono HB.out.size))
          clear HB
          have HB := HB1
          clear HB1
          have HC := Aside0.mk hC
          have NE : ad.block ≠ g := by have := blk_lt BKg.out; omega
          have BKg1 := Aside0.mk (blk_below BKg.out hb)
          clear BKg
          have BKg := BKg1
          clear BKg1
          clear hC hO hb
          refine hK.out _ _ hS (fun hHeld => ?_)
          clear hK K hS
          refine norm_ (a' := ?_) ?_ ?_
          rotate_left
          · show Act.put _ (some 20) _ = _
            simp only [Act.put, List.setIfInBounds_toArray, List.set_cons_zero, List.set_cons_succ, i64_w, i32_w]
            rfl
          refine pure_ (i := 5) (N := some 23) (v := ?_) (a' := ?_) #[true, true, true, true, true, true, false, true, true, false, true, false] rfl rfl (any_of HT_.out (by kernel_rfl)) (fun _ _ _ h => h) (Or.inl ⟨by rfl, ?_⟩) ?_ ?_
          rotate_left
          · intro w'
            go_simp
            with_reducible rfl
          rotate_left
          · simp only [Act.put, List.setIfInBounds_toArray, List.set_cons_zero, List.set_cons_succ, i64_w, i32_w]
            rfl
          exact norm_ (by simp only [putAll, Act.put, List.setIfInBounds_toArray, List.set_cons_zero, List.set_cons_succ]) (hCont1 (ad, c, g) _ ⟨hHeld, HC.out, BKg.out, hgt, NE, HB.out⟩)
      · rintro ⟨ad, c, g⟩ W ⟨hHeld, hC, hbox, hgt, NE, hB⟩
        dsimp only at hC hbox hgt NE
        clear HB
        have HB := Aside0.mk hB
        have HC := Aside0.mk hC
        have BKg := Aside0.mk hbox
        clear hC hbox hB
        refine norm_ (a' := ?_) ?_ ?_
        rotate_left
        · simp only [putAll, Act.put, List.setIfInBounds_toArray, List.set_cons_zero, List.set_cons_succ]
          rfl
        refine one_ (i := 6) (N := some 24) #[true, true, true, true, true, true, true, true, true, false, true, false] rfl rfl (one_of HT_.out (by kernel_rfl)) (by decide) (fun K hK => ?_)
        obtain ⟨ad', e1, hx0, hx1, hx2⟩ := at_T70 HC.out n0 (by omega) ltz
        cases e1
        simp only [Int.toNat_natCast] at hx0 hx1 hx2
        rw [show rd_T70 L (n0 : Int) = L.getD n0 z70 from rfl, hm] at hx0 hx1 hx2
        refine val_ (v := .agg #[.int .i64 m.f0, .int .i64 m.f1, .int .i64 m.f2]) (by rfl) rfl ?_ ?_
        · first | (go_simp; done) | (go_simp; rfl)
        have hS := hHeld
        clear hx0 hx1 hx2
        refine hK.out _ _ hS (fun hHeld => ?_)
        clear hK K hS
        refine norm_ (a' := ?_) ?_ ?_
        rotate_left
        · show Act.put _ (some 24) _ = _
          simp only [Act.put, List.setIfInBounds_toArray, List.set_cons_zero, List.set_cons_succ, i64_w, i32_w]
          rfl
        exact norm_ (by simp only [putAll, Act.put, List.setIfInBounds_toArray, List.set_cons_zero, List.set_cons_succ]) (hCont2 (ad, c, g) _ ⟨hHeld, HC.out, BKg.out, hgt, NE, HB.out⟩)
    · rintro ⟨ad, c, g⟩ W ⟨hHeld, hC, hbox, hgt, NE, hB⟩
      dsimp only at hC hbox hgt NE
      clear HB
      have HB := Aside0.mk hB
      have HC := Aside0.mk hC
      have BKg := Aside0.mk hbox
      clear hC hbox hB
      refine norm_ (a' := ?_) ?_ ?_
      rotate_left
      · simp only [putAll, Act.put, List.setIfInBounds_toArray, List.set_cons_zero, List.set_cons_succ]
        rfl
      refine one_ (i := 9) (N := some 27) #[true, true, true, true, true, true, true, true, true, true, true, false] rfl rfl (one_of HT_.out (by kernel_rfl)) (by decide) (fun K hK => ?_)
      refine goes_ Try.func94 (by kernel_rfl) rfl #[.agg #[.int .i64 m.f0, .int .i64 m.f1, .int .i64 m.f2], .int .i64 b1] (by rfl) rfl rfl (by (try simp only [List.map_toArray, List.map_cons, List.map_nil]); first | done | rfl) ?_
      refine (weigh_mark_times.calls m.f0 m.f1 m.f2 b1 t0 t1 t2 _ HTM.out).mono ?_
      rintro e W ⟨rfl, hb⟩
      refine ⟨_, rfl, ?_⟩
      have hS := And.intro ((hb.cell (World.block_lt_of_cell? _ _ hHeld.1)).trans hHeld.1) ((hb.cell (World.block_lt_of_cell? _ _ hHeld.2)).trans hHeld.2)
      have HB1 := Aside0.mk (HB.out.trans (hb.mono HB.out.size))
      have HC1x := Aside0.mk (Kd.C_below HC.out hb)
      clear HB HC
      have HB := HB1
      have HC := HC1x
      clear HB1 HC1x
      have BKg1 := Aside0.mk (blk_below BKg.out hb)
      clear BKg
      have BKg := BKg1
      clear BKg1
      clear hb
      refine hK.out _ _ hS (fun hHeld => ?_)
      clear hK K hS
      refine norm_ (a' := ?_) ?_ ?_
      rotate_left
      · show Act.put _ (some 27) _ = _
        simp only [Act.put, List.setIfInBounds_toArray, List.set_cons_zero, List.set_cons_succ, i64_w, i32_w]
        rfl
      exact norm_ (by simp only [putAll, Act.put, List.setIfInBounds_toArray, List.set_cons_zero, List.set_cons_succ]) (hCont3 (ad, c, g) _ ⟨hHeld, HC.out, BKg.out, hgt, NE, HB.out⟩)
  rintro ⟨ad, c, g⟩ W ⟨hHeld, hC, hbox, hgt, NE, hB⟩
  dsimp only at hC hbox hgt NE
  clear HB
  have HB := Aside0.mk hB
  have HC := Aside0.mk hC
  have BKg := Aside0.mk hbox
  clear hC hbox hB
  refine norm_ (a' := ?_) ?_ ?_
  rotate_left
  · simp only [putAll, Act.put, List.setIfInBounds_toArray, List.set_cons_zero, List.set_cons_succ]
    rfl
  refine one_ (i := 11) (N := none) #[true, true, true, true, true, true, true, true, true, true, true, true] rfl rfl (one_of HT_.out (by kernel_rfl)) (by decide) (fun K hK => ?_)
  have nb : w.heap.size ≠ g := by omega
  have hs0 := blk_cell BKg.out 0
  have hs1 := blk_cell BKg.out 1
  have hs2 := blk_cell BKg.out 2
  simp only [List.getElem?_toArray, List.getElem?_cons_zero, List.getElem?_cons_succ] at hs0 hs1 hs2
  have hf0 := blk_frozen BKg.out 0
  have hf1 := blk_frozen BKg.out 1
  have hf2 := blk_frozen BKg.out 2
  refine skip_ (w1 := ?_) (by rfl) rfl ?_ ?_
  rotate_left
  · go_simp
    rfl
  refine hK.out _ _ ⟨((cell_far (p := ⟨g, _, none⟩) nb _).trans ((cell_far (p := ⟨g, _, none⟩) nb _).trans ((cell_far (p := ⟨g, _, none⟩) nb _).trans hHeld.1))), ((cell_far (p := ⟨g, _, none⟩) nb _).trans ((cell_far (p := ⟨g, _, none⟩) nb _).trans ((cell_far (p := ⟨g, _, none⟩) nb _).trans hHeld.2)))⟩ (fun hHeld => ?_)
  clear hK K
  refine done_ (done_of HT_.out (by kernel_rfl)) ?_
  have BK' := Aside0.mk (blk_set (blk_set (blk_set BKg.out 0 (.int .i64 t0)) 1 (.int .i64 t1)) 2 (.int .i64 t2))
  have HB' : Aside0 (Below w.heap.size w (((W.setCell ⟨g, 0, none⟩ (.int .i64 t0)).setCell ⟨g, 1, none⟩ (.int .i64 t1)).setCell ⟨g, 2, none⟩ (.int .i64 t2))) := ⟨below_set (below_set (below_set HB.out (Nat.le_of_lt hgt)) (Nat.le_of_lt hgt)) (Nat.le_of_lt hgt)⟩
  clear hs0 hs1 hs2 hf0 hf1 hf2 hHeld
  generalize (((W.setCell ⟨g, 0, none⟩ (.int .i64 t0)).setCell ⟨g, 1, none⟩ (.int .i64 t1)).setCell ⟨g, 2, none⟩ (.int .i64 t2)) = W6 at *
  have hsl := fun (W : World) (B : Nat) => slice70 W B l1.length few
  have CF := Aside0.mk (show slices_Clone_int_int.f (cut3 l1.length ⟨t0, t1, t2⟩) = some (cut3 l1.length ⟨t0, t1, t2⟩) by unfold slices_Clone_int_int.f; rw [if_pos]; simp [cut3]; omega)
  have CL : (cut3 l1.length ⟨t0, t1, t2⟩).length = l1.length := by simp [cut3]; omega
  go_wp2_with fail
  have hcall := slices_Clone_int_int.calls (some ⟨g, 0, none⟩) 3 (cut3 l1.length ⟨t0, t1, t2⟩) (cut3 l1.length ⟨t0, t1, t2⟩) W6 (by rw [CL]; exact C_block (l := [t0, t1, t2]) BK'.out l1.length few (by simp)) (by rw [CL]; exact few) CF.out
  rw [CL] at hcall
  refine hcall.mono ?_
  rintro e w' ⟨vc, rfl, hO1, hb1⟩
  have HO1 := Aside0.mk (Kd.R_lower hO1 HB'.out.size)
  have HB1 := Aside0.mk (HB'.out.trans (hb1.mono HB'.out.size))
  clear hO1 hb1 hcall
  go_wp2
  go_ret2
  exact ⟨_, rfl, by rw [HR1.out]; exact HO1.out, HB1.out⟩
end Go.Proofs.Ytdbeochifofdoaa.X
end

section
-- Written by a program of this session (wip/hook.py, which runs the kit's print.py with contracts proved by hand). Not trusted: Lean checks it.
namespace Go.Proofs.Ytdbeochifofdoaa.X
open Go.RowKit Go.Proofs.YtdbeochifofdoaaW.PrintWords Go.Proofs.YtdbeochifofdoaaW.PrintLast Go.Proofs.YtdbeochifofdoaaW.PrintMore
attribute [local go_sem] max2_int min2_int max_two min_two max_three min_three max_four min_four   -- for this text's walks alone
set_option linter.unusedVariables false
set_option linter.unusedSimpArgs false

/-! ### weigh_cases: function 93 -/
def weigh_cases.l0 : Nat → List (S35) → Int → Int → Option ((List (S35)))
  | 0, _, _, _ => none
  | k + 1, x3, x5, x6 => if x6 < x5 then ((some (([(⟨x6, (-1)⟩ : S35), (⟨x6, 1⟩ : S35)] : List (S35)) : List (S35))).bind fun y365 => (if x3.length + y365.length < 8796093022208 then (weigh_cases.l0 k (x3 ++ y365) x5 (wrap64 (x6 + 1))) else (none))) else (some x3)
def weigh_cases.f (k : Nat) (a0 : Int) : Option ((List (S35))) := weigh_cases.l0 k ([] : List (S35)) a0 0
theorem weigh_cases.mono_l : ∀ k, (∀ y0 y1 y2, LeO (weigh_cases.l0 k y0 y1 y2) (weigh_cases.l0 (k + 1) y0 y1 y2))
  | 0 => fun _ _ _ r h => by simp [weigh_cases.l0] at h
  | k + 1 => by
    have ih0 := weigh_cases.mono_l k
    · intro y0 y1 y2
      unfold weigh_cases.l0
      repeat' first
      | (with_reducible exact ih0 _ _ _)
      | (with_reducible exact LeO.refl _)
      | (with_reducible exact LeO.none _)
      | (with_reducible refine LeO.ite ?_ ?_)
      | (with_reducible refine LeO.bind ?_ (fun _ => ?_))
      | exact ih0 _ _ _
      | exact LeO.none _
      | refine LeO.ite ?_ ?_
      | refine LeO.bind ?_ (fun _ => ?_)
theorem weigh_cases.mono : ∀ a0 k, LeO (weigh_cases.f k a0) (weigh_cases.f (k + 1) a0) := by
  intro a0 k
  have ih0 := weigh_cases.mono_l k
  unfold weigh_cases.f
  repeat' first
      | (with_reducible exact ih0 _ _ _)
      | (with_reducible exact LeO.refl _)
      | (with_reducible exact LeO.none _)
      | (with_reducible refine LeO.ite ?_ ?_)
      | (with_reducible refine LeO.bind ?_ (fun _ => ?_))
      | exact ih0 _ _ _
      | exact LeO.none _
      | refine LeO.ite ?_ ?_
      | refine LeO.bind ?_ (fun _ => ?_)
set_option maxHeartbeats 8000000 in
set_option maxRecDepth 100000 in
theorem weigh_cases.calls (k : Nat) (a0 : Int) (r : List (S35)) (w : World) (h : weigh_cases.f k a0 = some r) :
    Calls Try.prog 93 #[.int .i64 a0] w fun e w' => ∃ v0_ : Value, e = .returned (v0_) ∧ Kd.R k35 35 w' w.heap.size (fun _ => True) v0_ r ∧ Below w.heap.size w w' := by
  have hu35 := Try.underlying35
  have HB := Aside0.mk (Below.refl w.heap.size w)
  have H : (weigh_cases.l0 k ([] : List (S35)) a0 0) = some r := h
  clear h
  have H' := Aside0.mk H
  clear H
  go_enter Try.func93, Try.ntmps93
  go_wp2
  go_loopg [3, 6] k (fun kq v3 v6 w' => ∃ (x3_1 : List (S35)) (x6_1 : Int), v6 = .int .i64 x6_1 ∧ Aside0 (weigh_cases.l0 kq x3_1 a0 x6_1 = some r) ∧ Aside0 (kq ≤ k) ∧ Aside0 (Kd.R k35 35 w' w.heap.size (fun _ => True) v3 x3_1) ∧ Aside0 (Below w.heap.size w w'))
  case atStart => exact ⟨(([] : List (S35))), (0), (by first | rfl | (simp; done) | (simp [*]; done)), H', ⟨Nat.le_refl _⟩, ⟨by first | exact Kd.R_nil _ _ _ _ _ | exact Kd.N_nil _ _ _ _ _ | exact Kd.V_nil _ _ _ _ _ | exact Kd.Q_nil _ _ _ _ _ | exact Kd.S_nil _ _ _ _ _⟩, ⟨by repeat (first | (with_reducible first | exact HB.out | apply below_alloc | apply pw_below_drewN | apply below_drew1) | exact HB.out)⟩⟩
  case round =>
    clear H'
    obtain ⟨x3_1, x6_1, rfl, HA, HK1, HO_3, HB⟩ := hrel
    cases gk with
    | zero => exact absurd HA.out (by simp [weigh_cases.l0])
    | succ k1 =>
      have H := HA.out
      clear HA
      simp only [weigh_cases.l0] at H
      by_cases c2 : x6_1 < a0
      · rw [if_pos c2] at H
        have c2b0 : decide (x6_1 < a0) = true := decide_eq_true c2
        clear c2
        obtain ⟨y365, hy365⟩ : ∃ y_ : List (S35), y_ = (([(⟨x6_1, (-1)⟩ : S35), (⟨x6_1, 1⟩ : S35)] : List (S35))) := ⟨_, rfl⟩
        replace H : (if x3_1.length + y365.length < 8796093022208 then (weigh_cases.l0 k1 (x3_1 ++ y365) a0 (wrap64 (x6_1 + 1))) else (none)) = some r := by first | (rw [hy365]; with_reducible exact H) | (have H2_ := (Option.bind_some _ _).symm.trans H; rw [hy365]; with_reducible exact H2_) | (have H2_ := (Option.bind_some _ _).symm.trans H; with_reducible exact H2_) | with_reducible exact H | (rw [hy365]; exact H) | exact H
        have Ny365 := Aside0.mk hy365
        clear hy365
        by_cases c3 : x3_1.length + y365.length < 8796093022208
        · rw [if_pos c3] at H
          have LMc3 := Aside0.mk c3
          clear c3
          obtain ⟨y368, hy368⟩ : ∃ y_ : List (S35), y_ = (x3_1 ++ y365) := ⟨_, rfl⟩
          replace H : (weigh_cases.l0 k1 y368 a0 (wrap64 (x6_1 + 1))) = some r := by first | (rw [hy368]; with_reducible exact H) | (have H2_ := (Option.bind_some _ _).symm.trans H; rw [hy368]; with_reducible exact H2_) | (have H2_ := (Option.bind_some _ _).symm.trans H; with_reducible exact H2_) | with_reducible exact H | (rw [hy368]; exact H) | exact H
          have Ny368 := Aside0.mk hy368
          clear hy368
          have H' := Aside0.mk H
          clear H
          go_wp2_with (first | ((with_reducible refine gate_dst (N := 14) rfl ?_); refine Kd.R_lit k35 _ 35 ?hg (N := 14) ?hd (xs := ([(⟨x6_1, (-1)⟩ : S35), (⟨x6_1, 1⟩ : S35)] : List (S35))) (inner := [.int .i64 x6_1, .int .i64 (-1), .int .i64 x6_1, .int .i64 1]) (ok := fun _ => True) (okp := fun _ => True) ?hr ?hp (fun _ hk => hk) trivial (Below.refl _ _) (Nat.le_refl _) (by simp) ?_; (case hd => rfl); (case hg => rfl); (case hr => first | (go_simp; done) | (go_simp; rfl)); (case hp => exact (Reps.c2 (show Kd.M k35 _ _ _ (⟨x6_1, (-1)⟩ : S35) [.int .i64 x6_1, .int .i64 (-1)] from (k35_mkM _ _ _ (⟨x6_1, (-1)⟩ : S35) )) (Reps.c2 (show Kd.M k35 _ _ _ (⟨x6_1, 1⟩ : S35) [.int .i64 x6_1, .int .i64 1] from (k35_mkM _ _ _ (⟨x6_1, 1⟩ : S35) )) (Reps.none _ _)))); intro v366 w4 ho5 hb hg_ hnew_; clear hg_ hnew_; (first | rw [← Ny365.out] at ho5 | (simp only [Int.reduceToNat] at ho5; rw [← Ny365.out] at ho5)); have n0_ := Aside0.mk (Kd.R_elder' (by (with_reducible repeat (first | apply Kd.R_alloc | apply Kd.R_drewN | apply Kd.R_drew)); exact HO_3.out) (Kd.R_base ho5) hb); have n1_ := Aside0.mk (Kd.R_lower (Kd.R_new' ho5 (Kd.R_lt (by (with_reducible repeat (first | apply Kd.R_alloc | apply Kd.R_drewN | apply Kd.R_drew)); exact HO_3.out))) (below_size (by repeat (first | (with_reducible first | exact HB.out | apply below_alloc | apply pw_below_drewN | apply below_drew1) | exact HB.out)))); have n2_ := Aside0.mk (below_step (by repeat (first | (with_reducible first | exact HB.out | apply below_alloc | apply pw_below_drewN | apply below_drew1) | exact HB.out)) hb); clear HO_3; clear HB; have HO_3 := n0_; have HO367 := n1_; have HB := n2_; clear n0_ n1_ n2_; clear hb ho5; obtain ⟨Ao7, co7, eo7⟩ := Kd.R_slice HO367.out; subst eo7) | ((with_reducible refine gate_builtin (b := .append) (xs := #[.tmp 9, .tmp 14]) rfl ?_); at_builtin; refine Kd.R_append_rows k35 (w0 := w) w.heap.size rfl (.tmp 9) (.tmp 14) 71 35 (.agg #[(.int .i64 0), (.int .i64 0)]) 16 rfl Try.underlying71 info35 rfl (by decide) (by omega) u3 x3_1 y365 _ _ _ (fun k_ => some k_ ≠ (.slice Ao7 y365.length co7 : Value).ownBlock) (fun _ => False) rfl rfl ?aO ?aR (fun _ _ h => h) (fun _ h => h.elim) ?aF ?aB ?aS ?aL ?_; (case aR => repeat (first | exact (Kd.R_reads' HO367.out).2.2 | (with_reducible refine Kd.C_alloc ?_ _) | (with_reducible refine Kd.C_drewN ?_ _) | (with_reducible refine Kd.C_drew ?_))); (case aB => exact (by repeat (first | (with_reducible first | exact HB.out | apply below_alloc | apply pw_below_drewN | apply below_drew1) | exact HB.out))); (case aF => exact (fun k_ hk => Kd.fresh' (Kd.R_lt (by (with_reducible repeat (first | apply Kd.R_alloc | apply Kd.R_drewN | apply Kd.R_drew)); exact HO367.out)) k_ hk)); (case aO => exact (by (with_reducible repeat (first | apply Kd.R_alloc | apply Kd.R_drewN | apply Kd.R_drew)); exact Kd.R_mono HO_3.out (fun _ hk => hk.2))); (case aS => exact (below_size (by repeat (first | (with_reducible first | exact HB.out | apply below_alloc | apply pw_below_drewN | apply below_drew1) | exact HB.out)))); (case aL => have := LMc3.out; omega); intro v369 w6 ho hb hg hat; rw [← Ny368.out] at ho; have n0_ := Aside0.mk (Kd.R_after (ok := (fun _ => True)) (by (with_reducible repeat (first | apply Kd.R_alloc | apply Kd.R_drewN | apply Kd.R_drew)); exact HO367.out) hg hat); have n1_ := Aside0.mk (hb); have n2_ := Aside0.mk (ho); clear HO367; clear HB; clear HO_3; have HO367 := n0_; have HB := n1_; have HO370 := n2_; clear n0_ n1_ n2_; clear ho hb hg hat))
          go_roundg k1
          case measure => have := HK1.out; omega
          case rel => exact ⟨(y368), (wrap64 (x6_1 + 1)), (by first | rfl | (simp; done) | (simp [*]; done)), H', ⟨by have := HK1.out; omega⟩, ⟨by (with_reducible repeat (first | apply Kd.R_alloc | apply Kd.R_drewN | apply Kd.R_drew)); exact Kd.R_mono HO370.out (fun _ hk => trivial)⟩, ⟨by repeat (first | (with_reducible first | exact HB.out | apply below_alloc | apply pw_below_drewN | apply below_drew1) | exact HB.out)⟩⟩
        · rw [if_neg c3] at H
          exact absurd H (by simp)
      · rw [if_neg c2] at H
        have c2b0 : decide (x6_1 < a0) = false := decide_eq_false c2
        clear c2
        obtain rfl := Option.some.inj H
        go_wp2
        go_ret
        exact ⟨_, by first | rfl | (simp [errW_none, errW_some] <;> rfl) | (simp [*, errW_none, errW_some] <;> rfl), by (with_reducible repeat (first | apply Kd.R_alloc | apply Kd.R_drewN | apply Kd.R_drew)); exact HO_3.out, by repeat (first | (with_reducible first | exact HB.out | apply below_alloc | apply pw_below_drewN | apply below_drew1) | exact HB.out)⟩

-- GIVEN: function 55 (weigh_Possible): YtdbeochifofdoaaG55

end Go.Proofs.Ytdbeochifofdoaa.X
end

section
/-! weigh.Cases. -/
namespace Go.Proofs.Ytdbeochifofdoaa.X
open Go.RowKit Go.Proofs.YtdbeochifofdoaaW.PrintWords Go.Proofs.YtdbeochifofdoaaW.PrintLast Go.Proofs.YtdbeochifofdoaaW.PrintMore
set_option linter.unusedVariables false
set_option linter.unusedSimpArgs false
attribute [local go_sem high] eqA70

/-- All cases. -/
def casesL (lots : Int) : List S35 := (List.range lots.toNat).flatMap fun (n : Nat) => ([⟨(n : Int), -1⟩, ⟨(n : Int), 1⟩] : List S35)
def of3 (l : List Int) : S70 := ⟨l.getD 0 0, l.getD 1 0, l.getD 2 0⟩
def eq3 (a b : S70) : Bool := a.f0 == b.f0 && (a.f1 == b.f1 && a.f2 == b.f2)
def pickB (L : List S70) (g : S70) (c : S35) : Bool := eq3 (tim3 (L.getD c.f0.toNat z70) c.f1) g
def sideB (l : List Int) : Bool := l.any fun x => !(decide (-1 ≤ x) && decide (x ≤ 1))
def weigh_Cases.f (a0 : Int) (l1 : List S53) (l2 : List Int) : Option (List S35 × Bool × Int) :=
  if pErr a0 l1 = 0 then (if (l2.length != l1.length || sideB l2) = true then some ([], false, 1) else some ((casesL a0).filter (pickB (marksL a0 l1) (of3 l2)), isZ (of3 l2), 0)) else some ([], false, pErr a0 l1)
instance decS35 : DecidableEq S35 := fun a b => decidable_of_iff (a.f0 = b.f0 ∧ a.f1 = b.f1) (by cases a; cases b; simp)
set_option maxRecDepth 100000 in
theorem cases_is : ∀ n, n < 13 → weigh_cases.f 20 ((n + 1 : Nat) : Int) = some (casesL ((n + 1 : Nat) : Int)) := by decide +kernel
theorem eg102 (args : Array Value) (w : World) : (callFunc 102 args).run Try.prog w = .ok (.enter 102 args) w := enters_of Try.func102 (by kernel_rfl) rfl args w
theorem casesL_mem {lots : Int} {c : S35} (h : c ∈ casesL lots) : 0 ≤ c.f0 ∧ c.f0.toNat < lots.toNat := by
  unfold casesL at h
  rw [List.mem_flatMap] at h
  obtain ⟨n, hn, hc⟩ := h
  rw [List.mem_range] at hn
  simp only [List.mem_cons, List.not_mem_nil, or_false] at hc
  rcases hc with rfl | rfl <;> exact ⟨by simp, by simpa using hn⟩
theorem casesL_len (lots : Int) : (casesL lots).length = 2 * lots.toNat := by
  unfold casesL
  induction lots.toNat with
  | zero => rfl
  | succ n ih => rw [List.range_succ, List.flatMap_append, List.length_append, ih]; simp; omega
/-- The given answers, in a mark. -/
theorem splice3 (l : List Int) (h : l.length ≤ 3) : splice [Value.int .i64 0, .int .i64 0, .int .i64 0] 0 (l.map (Value.int .i64)) = [.int .i64 (of3 l).f0, .int .i64 (of3 l).f1, .int .i64 (of3 l).f2] := by
  match l, h with
  | [], _ => rfl
  | [a], _ => rfl
  | [a, b], _ => rfl
  | [a, b, c], _ => rfl
set_option maxHeartbeats 4000000 in
set_option maxRecDepth 100000 in
theorem weigh_Cases.calls (a0 : Int) (A1 : Option Addr) (c1 : Nat) (l1 : List S53) (A2 : Option Addr) (c2 : Nat) (l2 : List Int) (r1 : List S35) (r2 : Bool) (r3 : Int) (w : World) (hr1 : Kd.C k53 w A1 l1.length l1) (hc1 : l1.length ≤ c1) (hr2 : Kd.C (Kd.int .i64) w A2 l2.length l2) (hc2 : l2.length ≤ c2) (h : weigh_Cases.f a0 l1 l2 = some (r1, r2, r3)) :
    Calls Try.prog 64 #[.int .i64 a0, .slice A1 l1.length c1, .slice A2 l2.length c2] w fun e w' => ∃ v0_ : Value, e = .returned (.tuple #[v0_, .bool r2, .int .i64 r3]) ∧ Kd.R k35 35 w' w.heap.size (fun _ => True) v0_ r1 ∧ Below w.heap.size w w' := by
  have HR1 := Aside0.mk hr1
  have HR2 := Aside0.mk hr2
  have HC1 := Aside0.mk hc1
  unfold weigh_Cases.f at h
  obtain ⟨p, hpe⟩ : ∃ p, p = pErr a0 l1 := ⟨_, rfl⟩
  have HF := Aside0.mk (show weigh_Validate.f a0 l1 = some p by rw [hpe]; rfl)
  have HP := Aside0.mk hpe
  rw [← hpe] at h
  clear hpe hr1 hc1 hr2
  go_enter Try.func64, Try.ntmps64
  go_wp2_with fail
  refine (weigh_Validate.calls a0 A1 c1 l1 p _ HR1.out HC1.out HF.out).mono ?_
  rintro e w1 ⟨rfl, hb⟩
  have HB1 := Aside0.mk hb
  clear hb
  by_cases hz : p = 0
  rotate_left
  · rw [if_neg hz] at h
    simp only [Option.some.injEq, Prod.mk.injEq] at h
    obtain ⟨rfl, rfl, rfl⟩ := h
    have q1 : (p != 0) = true := by simpa using hz
    go_wp2
    go_ret3
    exact ⟨_, rfl, Kd.R_nil _ _ _ _ _, HB1.out⟩
  subst hz
  rw [if_pos rfl] at h
  have ok := pErr_ok HP.out.symm
  have few := ok.few
  have HMF := Aside0.mk (show weigh_marks.f a0 l1 = some (marksL a0 l1) by unfold weigh_marks.f; rw [if_pos HP.out.symm])
  have hlen : (marksL a0 l1).length = a0.toNat := marksL_len' a0 l1
  have hlo := ok.lo
  have hhi := ok.hi
  obtain ⟨n, rfl⟩ := Int.eq_ofNat_of_zero_le (show 0 ≤ a0 by omega)
  have hCF := cases_is (n - 1) (by omega)
  rw [show n - 1 + 1 = n by omega] at hCF
  have HCF := Aside0.mk hCF
  have hcm : ∀ c, c ∈ casesL (n : Int) → 0 ≤ c.f0 ∧ c.f0.toNat < (marksL (n : Int) l1).length := fun c hc => by have := casesL_mem hc; rw [hlen]; exact this
  have hcl : (casesL (n : Int)).length ≤ 26 := by rw [casesL_len]; omega
  generalize casesL (n : Int) = cs at *
  generalize marksL (n : Int) l1 = L at *
  have HCM := Aside0.mk hcm
  clear hcm hCF ok hlen
  by_cases he : l2.length = l1.length
  rotate_left
  · have q1 : ((l2.length : Int) != (l1.length : Int)) = true := bne_iff_ne.mpr (by omega)
    have q2 : (l2.length != l1.length || sideB l2) = true := by simp [he]
    rw [if_pos q2] at h
    simp only [Option.some.injEq, Prod.mk.injEq] at h
    obtain ⟨rfl, rfl, rfl⟩ := h
    go_wp2
    go_ret3
    exact ⟨_, rfl, Kd.R_nil _ _ _ _ _, HB1.out⟩
  have q1 : ((l2.length : Int) != (l1.length : Int)) = false := bne_eq_false_iff_eq.mpr (by omega)
  have sl3 : l2.length ≤ 3 := by omega
  have HE := Aside0.mk he
  clear he
  go_wp2_with fail
  refine (containsFunc97 102 #[] eg102 (fun x => !(decide (-1 ≤ x) && decide (x ≤ 1))) A2 c2 l2 _ ?hr ?hp).mono ?_
  case hr => exact Kd.C_below HR2.out HB1.out
  case hp =>
    intro W x _ hbW
    exact lit102 x W
  rintro e w2 ⟨rfl, hb2⟩
  have HB2 := Aside0.mk (HB1.out.trans (hb2.mono HB1.out.size))
  clear HB1 hb2
  rw [show (l2.any fun x => !(decide (-1 ≤ x) && decide (x ≤ 1))) = sideB l2 from rfl]
  cases hs : sideB l2 with
  | true =>
    have q2 : (l2.length != l1.length || sideB l2) = true := by simp [hs]
    rw [if_pos q2] at h
    simp only [Option.some.injEq, Prod.mk.injEq] at h
    obtain ⟨rfl, rfl, rfl⟩ := h
    go_wp2
    go_ret3
    exact ⟨_, rfl, Kd.R_nil _ _ _ _ _, HB2.out⟩
  | false =>
    have q2 : (l2.length != l1.length || sideB l2) = false := by simp [hs, HE.out]
    rw [q2, if_neg (by simp)] at h
    simp only [Option.some.injEq, Prod.mk.injEq] at h
    obtain ⟨h1, h2, rfl⟩ := h
    have H1 := Aside0.mk h1
    have H2 := Aside0.mk h2
    have hsl := slice70all
    clear h1 h2 q2 hs
    go_wp2_with (with_reducible refine wpList_copy_splice rfl (.tmp 30) (.tmp 31) 43 43 rfl 3 Try.underlying43 (by kernel_rfl) (some ⟨w2.heap.size, 0, none⟩) A2 3 3 l2.length c2 rfl rfl w2.heap.size 0 [.int .i64 0, .int .i64 0, .int .i64 0] 70 ?cg (l2.map (Value.int .i64)) ?cn ?cp ?cf ?c1 w.heap.size w ?cb ?cB ?_)
    case cg => exact blk_new _ _
    case cn => simp [Nat.min_def]; omega
    case cp =>
      intro hpos
      obtain ⟨ad, hA, hc⟩ := HR2.out.2.2 hpos
      refine ⟨ad, hA, fun j x hx => ?_⟩
      obtain ⟨c, _, hc2, hc3⟩ := hc j x hx
      obtain rfl : c = [Value.int .i64 x] := hc2
      have hw := hc3 0 _ rfl
      rw [show (Kd.int .i64).sz = 1 from rfl, Nat.mul_one, Nat.add_zero] at hw
      exact (World.cell?_alloc_lt _ _ _ (by have := World.block_lt_of_cell? _ _ hw; have := HB2.out.size; omega)).trans ((HB2.out.cell (World.block_lt_of_cell? w _ hw)).trans hw)
    case cf => rw [List.length_map]; simp; omega
    case c1 => intro v hv; obtain ⟨x, _, rfl⟩ := List.mem_map.1 hv; rfl
    case cb => exact below_alloc HB2.out _
    case cB => exact HB2.out.size
    intro w3 hh hb3
    rw [splice3 l2 sl3] at hh
    have BK3 := Aside0.mk hh.out
    have HB3 := Aside0.mk hb3
    have szg := HB2.out.size
    clear hh hb3 HB2
    obtain ⟨gB, hgB⟩ : ∃ g, g = w2.heap.size := ⟨_, rfl⟩
    rw [← hgB] at BK3 szg ⊢
    clear hgB
    go_wp2_with fail
    refine (weigh_marks.calls (n : Int) A1 c1 l1 L _ (Kd.C_below HR1.out HB3.out) HC1.out HMF.out).mono ?_
    rintro e w4 ⟨v, rfl, hO, hb⟩
    obtain ⟨A, c, rfl⟩ := Kd.R_slice hO
    obtain ⟨_, hLc, hC⟩ := Kd.R_reads' hO
    have HL4 := Aside0.mk hC
    have BK4 := Aside0.mk (blk_below BK3.out hb)
    have HB4 := Aside0.mk (HB3.out.trans (hb.mono HB3.out.size))
    clear BK3 HB3 hO hC hb
    go_wp2_with fail
    refine (weigh_cases.calls 20 (n : Int) cs _ HCF.out).mono ?_
    rintro e w5 ⟨v, rfl, hO, hb⟩
    obtain ⟨Ac, cc, rfl⟩ := Kd.R_slice hO
    obtain ⟨_, hcc, hC⟩ := Kd.R_reads' hO
    have HCS := Aside0.mk hC
    have HL5 := Aside0.mk (Kd.C_below HL4.out hb)
    have BK5 := Aside0.mk (blk_below BK4.out hb)
    have HB5 := Aside0.mk (HB4.out.trans (hb.mono HB4.out.size))
    clear BK4 HB4 HL4 hO hC hb
    go_wp2
    go_loopg [12, 39] cs.length (fun gg v12 s wr => ∃ (i : Nat) (xs : List S35), i ≤ cs.length ∧ cs.length - i ≤ gg ∧ s = .int .i64 i ∧ Aside0 (Below w5.heap.size w5 wr) ∧ Aside0 (Kd.R k35 35 wr w5.heap.size (fun _ => True) v12 xs) ∧ Aside0 (xs = (cs.take i).filter (pickB L (of3 l2))))
    case atStart => exact ⟨0, [], Nat.zero_le _, by omega, rfl, ⟨Below.refl _ _⟩, ⟨Kd.R_nil _ _ _ _ _⟩, ⟨by simp⟩⟩
    case round =>
      obtain ⟨i, xs, hi, hg, rfl, BR, HO, AX⟩ := hrel
      by_cases hil : i < cs.length
      · have hilz : (i : Int) < (cs.length : Int) := by omega
        obtain ⟨ad, e1, hx0, hx1⟩ := at_T35 HCS.out i (by omega) hilz
        cases e1
        replace hx0 := (BR.out.cell (World.block_lt_of_cell? w5 _ hx0)).trans hx0
        replace hx1 := (BR.out.cell (World.block_lt_of_cell? w5 _ hx1)).trans hx1
        simp only [Int.toNat_natCast] at hx0 hx1
        rw [show rd_T35 cs (i : Int) = cs.getD i z35 from rfl] at hx0 hx1
        have Bi : Aside0 (cs.take (i + 1) = cs.take i ++ [cs.getD i z35]) := ⟨by rw [List.take_succ_eq_append_getElem hil]; simp [List.getD_eq_getElem?_getD, List.getElem?_eq_getElem hil]⟩
        obtain ⟨m0, m1⟩ := HCM.out _ (mem_getD z35 cs i hil)
        generalize cs.getD i z35 = c0 at *
        obtain ⟨x0, x1⟩ := c0
        dsimp only at hx0 hx1 m0 m1
        obtain ⟨y0, rfl⟩ := Int.eq_ofNat_of_zero_le m0
        rw [Int.toNat_natCast] at m1
        have hicc : (i : Int) ≤ (cc : Int) := by omega
        go_wp2
        obtain ⟨adL, e2, hm0, hm1, hm2⟩ := at_T70 HL5.out (y0 : Int) (by omega) (by omega)
        cases e2
        simp only [Int.toNat_natCast] at hm0 hm1 hm2
        rw [show rd_T70 L (y0 : Int) = L.getD y0 z70 from rfl] at hm0 hm1 hm2
        replace hm0 := (BR.out.cell (World.block_lt_of_cell? w5 _ hm0)).trans hm0
        replace hm1 := (BR.out.cell (World.block_lt_of_cell? w5 _ hm1)).trans hm1
        replace hm2 := (BR.out.cell (World.block_lt_of_cell? w5 _ hm2)).trans hm2
        have BKr := blk_below BK5.out BR.out
        have hg0 := blk_cell BKr 0
        have hg1 := blk_cell BKr 1
        have hg2 := blk_cell BKr 2
        simp only [List.getElem?_toArray, List.getElem?_cons_zero, List.getElem?_cons_succ] at hg0 hg1 hg2
        have hb0 := Below.alloc (Below.refl wr.heap.size wr) (Nat.le_refl _) (.cells #[.int .i64 (y0 : Int), .int .i64 x1] 35)
        replace hm0 := (hb0.cell (World.block_lt_of_cell? wr _ hm0)).trans hm0
        replace hm1 := (hb0.cell (World.block_lt_of_cell? wr _ hm1)).trans hm1
        replace hm2 := (hb0.cell (World.block_lt_of_cell? wr _ hm2)).trans hm2
        replace hg0 := (hb0.cell (World.block_lt_of_cell? wr _ hg0)).trans hg0
        replace hg1 := (hb0.cell (World.block_lt_of_cell? wr _ hg1)).trans hg1
        replace hg2 := (hb0.cell (World.block_lt_of_cell? wr _ hg2)).trans hg2
        have BKc := blk_new wr (.cells #[.int .i64 (y0 : Int), .int .i64 x1] 35)
        have hc0 := blk_cell BKc 0
        have hc1 := blk_cell BKc 1
        simp only [List.getElem?_toArray, List.getElem?_cons_zero, List.getElem?_cons_succ] at hc0 hc1
        obtain ⟨gc, hgc⟩ : ∃ g, g = wr.heap.size := ⟨_, rfl⟩
        have HBa := Aside0.mk hb0
        have BKc' := Aside0.mk BKc
        rw [← hgc] at hc0 hc1 BKc' ⊢
        have HGC := Aside0.mk hgc
        clear hx0 hx1 hgc BKc hb0 BKr
        generalize hwn : wr.alloc (.cells #[.int .i64 (y0 : Int), .int .i64 x1] 35) = wn at *
        clear hwn
        obtain ⟨m, hm⟩ : ∃ m, m = L.getD y0 z70 := ⟨_, rfl⟩
        rw [← hm] at hm0 hm1 hm2
        have HM := Aside0.mk hm
        obtain ⟨t0, ht0⟩ : ∃ z, z = wrap64 (m.f0 * x1) := ⟨_, rfl⟩
        obtain ⟨t1, ht1⟩ : ∃ z, z = wrap64 (m.f1 * x1) := ⟨_, rfl⟩
        obtain ⟨t2, ht2⟩ : ∃ z, z = wrap64 (m.f2 * x1) := ⟨_, rfl⟩
        have HTM := Aside0.mk (show weigh_mark_times.f m.f0 m.f1 m.f2 x1 = some (t0, t1, t2) by rw [ht0, ht1, ht2]; rfl)
        have HPB := Aside0.mk (show pickB L (of3 l2) (⟨(y0 : Int), x1⟩ : S35) = (t0 == (of3 l2).f0 && (t1 == (of3 l2).f1 && t2 == (of3 l2).f2)) by
          unfold pickB tim3 eq3
          dsimp only
          rw [Int.toNat_natCast, ← hm, ht0, ht1, ht2])
        clear ht0 ht1 ht2 hm
        have SK : ∀ W, Below wn.heap.size wn W → (Below wn.heap.size wn W ∧ W.cell? ⟨gc, 0, none⟩ = some (.int .i64 (y0 : Int)) ∧ W.cell? ⟨gc, 1, none⟩ = some (.int .i64 x1) ∧ W.cell? (adL.add (y0 * 3)) = some (.int .i64 m.f0) ∧ W.cell? ⟨(adL.add (y0 * 3)).block, (adL.add (y0 * 3)).off + 1, none⟩ = some (.int .i64 m.f1) ∧ W.cell? ⟨(adL.add (y0 * 3)).block, (adL.add (y0 * 3)).off + 2, none⟩ = some (.int .i64 m.f2) ∧ W.cell? ⟨gB, 0, none⟩ = some (.int .i64 (of3 l2).f0) ∧ W.cell? ⟨gB, 1, none⟩ = some (.int .i64 (of3 l2).f1) ∧ W.cell? ⟨gB, 2, none⟩ = some (.int .i64 (of3 l2).f2)) := fun W hb => ⟨hb, (hb.cell (World.block_lt_of_cell? _ _ hc0)).trans hc0, (hb.cell (World.block_lt_of_cell? _ _ hc1)).trans hc1, (hb.cell (World.block_lt_of_cell? _ _ hm0)).trans hm0, (hb.cell (World.block_lt_of_cell? _ _ hm1)).trans hm1, (hb.cell (World.block_lt_of_cell? _ _ hm2)).trans hm2, (hb.cell (World.block_lt_of_cell? _ _ hg0)).trans hg0, (hb.cell (World.block_lt_of_cell? _ _ hg1)).trans hg1, (hb.cell (World.block_lt_of_cell? _ _ hg2)).trans hg2⟩
        have hS0 := SK _ (below_drew1 (Below.refl _ wn))
        have CT : Aside0 (∀ W, Below wn.heap.size wn W → Calls Try.prog 94 #[.agg #[.int .i64 m.f0, .int .i64 m.f1, .int .i64 m.f2], .int .i64 x1] W fun e w' => e = .returned (.agg #[.int .i64 t0, .int .i64 t1, .int .i64 t2]) ∧ Below W.heap.size W w' ∧ Below wn.heap.size wn w') :=
          ⟨fun W hW => (weigh_mark_times.calls m.f0 m.f1 m.f2 x1 t0 t1 t2 W HTM.out).mono (by rintro e w' ⟨rfl, hb⟩; exact ⟨rfl, hb, hW.trans (hb.mono hW.size)⟩)⟩
        have y0l : ((y0 : Int) < (L.length : Int)) := by omega
        have y0g : (0 : Int) ≤ (y0 : Int) := by omega
        have y0c : ((y0 : Int) ≤ (c : Int)) := by omega
        go_region_held3 (fun W => Below wn.heap.size wn W ∧ W.cell? ⟨gc, 0, none⟩ = some (.int .i64 (y0 : Int)) ∧ W.cell? ⟨gc, 1, none⟩ = some (.int .i64 x1) ∧ W.cell? (adL.add (y0 * 3)) = some (.int .i64 m.f0) ∧ W.cell? ⟨(adL.add (y0 * 3)).block, (adL.add (y0 * 3)).off + 1, none⟩ = some (.int .i64 m.f1) ∧ W.cell? ⟨(adL.add (y0 * 3)).block, (adL.add (y0 * 3)).off + 2, none⟩ = some (.int .i64 m.f2) ∧ W.cell? ⟨gB, 0, none⟩ = some (.int .i64 (of3 l2).f0) ∧ W.cell? ⟨gB, 1, none⟩ = some (.int .i64 (of3 l2).f1) ∧ W.cell? ⟨gB, 2, none⟩ = some (.int .i64 (of3 l2).f2)) ((first | with_reducible assumption | exact hS0 | exact SK _ hBT | fail)) (first | (go_at_call 94; with_reducible refine (CT.out _ ?_).mono ?_; (first | with_reducible assumption | exact hS0.1 | (apply And.left; with_reducible assumption)); rintro e w6 ⟨rfl, hB6, hBT⟩))
        obtain ⟨_, k0, k1, _, _, _, _, _, _⟩ := SK _ hBT
        have HBn := Aside0.mk (BR.out.trans (HBa.out.mono BR.out.size))
        have HB6 := Aside0.mk (HBn.out.trans (hBT.mono HBn.out.size))
        have HO6 := Aside0.mk (Kd.R_below (Kd.R_below HO.out HBa.out) hBT)
        clear hS0 SK CT hBT hB6 HBa
        have s6 := HB6.out.size
        have hxl : xs.length ≤ 26 := by rw [AX.out]; exact Nat.le_trans (List.length_filter_le _ _) (by rw [List.length_take]; omega)
        generalize hE : (t0 == (of3 l2).f0 && (t1 == (of3 l2).f1 && t2 == (of3 l2).f2)) = be at *
        clear hE hg0 hg1 hg2 hm0 hm1 hm2 hc0 hc1
        cases be with
        | true =>
          obtain ⟨Av, cv, rfl⟩ := Kd.R_slice HO6.out
          go_wp2_with (at_builtin; refine Kd.R_append k35 (w0 := w5) w5.heap.size rfl (.tmp 53) (.tmp 55) 71 35 (.agg #[(.int .i64 0), (.int .i64 0)]) 16 rfl Try.underlying71 info35 rfl (by decide) (by omega) (.slice Av xs.length cv) xs (⟨(y0 : Int), x1⟩ : S35) [.int .i64 (y0 : Int), .int .i64 x1] (fun _ => True) (fun _ => False) rfl rfl ?aP ?aK ?aF ?aO ?aB ?aS ?aL ?_)
          case aP => exact k35_mkM _ _ _ (⟨(y0 : Int), x1⟩ : S35)
          case aK => exact fun _ h => h.elim
          case aF => exact fun _ _ => trivial
          case aO => exact HO6.out
          case aB => exact HB6.out
          case aS => exact HB6.out.size
          case aL => omega
          intro v1 w7 hN hB7 _ _
          have HN := Aside0.mk hN
          have HB7 := Aside0.mk hB7
          clear hN hB7
          go_wp2
          go_roundg (cs.length - (i + 1))
          case measure => omega
          case rel =>
            refine ⟨i + 1, _, by omega, by omega, by go_num, HB7, HN, ⟨?_⟩⟩
            rw [Bi.out, List.filter_append, ← AX.out]
            simp [HPB.out]
        | false =>
          go_wp2
          go_roundg (cs.length - (i + 1))
          case measure => omega
          case rel =>
            refine ⟨i + 1, xs, by omega, by omega, by go_num, HB6, HO6, ⟨?_⟩⟩
            rw [Bi.out, List.filter_append, ← AX.out]
            simp [HPB.out]
      · have hilz : ¬ (i : Int) < (cs.length : Int) := by omega
        have hil' : cs.length ≤ i := by omega
        have BKr := blk_below BK5.out BR.out
        have hg0 := blk_cell BKr 0
        have hg1 := blk_cell BKr 1
        have hg2 := blk_cell BKr 2
        simp only [List.getElem?_toArray, List.getElem?_cons_zero, List.getElem?_cons_succ] at hg0 hg1 hg2
        clear BKr
        go_wp2
        go_quiet (fail)
        go_wp2
        go_ret3
        refine ⟨_, by rw [← H2.out]; rfl, ?_, pw_below_drewN (HB5.out.trans (BR.out.mono HB5.out.size)) _⟩
        have hR := Kd.R_drewN (Kd.R_lower HO.out HB5.out.size) nq
        rw [AX.out, List.take_of_length_le hil', H1.out] at hR
        exact hR
end Go.Proofs.Ytdbeochifofdoaa.X
end

section
-- Written by a program of this session (wip/hook.py, which runs the kit's print.py with contracts proved by hand). Not trusted: Lean checks it.
namespace Go.Proofs.Ytdbeochifofdoaa.X
open Go.RowKit Go.Proofs.YtdbeochifofdoaaW.PrintWords Go.Proofs.YtdbeochifofdoaaW.PrintLast Go.Proofs.YtdbeochifofdoaaW.PrintMore
attribute [local go_sem] max2_int min2_int max_two min_two max_three min_three max_four min_four   -- for this text's walks alone
set_option linter.unusedVariables false
set_option linter.unusedSimpArgs false

attribute [local go_sem high] eqA35
/-! ### verditerlaw06_weighFinds: function 40 -/
mutual
def verditerlaw06_weighFinds.j0 : Nat → List (S35) → Bool → Bool → Bool → Int → Int → Option (Bool)
  | 0, _, _, _, _, _, _ => none
  | k + 1, x9, x10, x12, x48, x575000, x575001 => if x48 = true then (some false) else (verditerlaw06_weighFinds.l0 k x9 x10 x12 false 0 x575000 x575001)
def verditerlaw06_weighFinds.l0 : Nat → List (S35) → Bool → Bool → Bool → Int → Int → Int → Option (Bool)
  | 0, _, _, _, _, _, _, _ => none
  | k + 1, x9, x10, x12, x14, x15, x575000, x575001 => if x15 < (x9.length : Int) then (if x14 = true then (verditerlaw06_weighFinds.l0 k x9 x10 x12 true (wrap64 (x15 + 1)) x575000 x575001) else (if 0 ≤ x15 then (verditerlaw06_weighFinds.l0 k x9 x10 x12 (((rd_T35 x9 x15).f0) == x575000 && (((rd_T35 x9 x15).f1) == x575001)) (wrap64 (x15 + 1)) x575000 x575001) else (none))) else (if x14 = true then (if x12 = true then (if (x9.length : Int) = 1 then (if x10 = true then (some false) else ((verditerlaw06_known.f k).bind fun t590 => (some t590))) else (some false)) else ((verditerlaw06_known.f k).bind fun t591 => (some t591))) else (some false))
end
def verditerlaw06_weighFinds.f (k : Nat) (a0 : Int) (l1 : List (S53)) (a2_0 : Int) (a2_1 : Int) : Option (Bool) := (verditerlaw06_Long.f k l1).bind fun t575 => (if t575 = true then ((verditerlaw06_known.f k).bind fun t576 => (some t576)) else ((weigh_Answers.f a0 l1 a2_0 a2_1).bind fun bt577 => (if bt577.2 = 0 then ((weigh_Cases.f a0 l1 bt577.1).bind fun bt582 => ((weigh_Tells.f a0 l1).bind fun bt587 => (if bt582.2.2 = 0 then (verditerlaw06_weighFinds.j0 k bt582.1 bt582.2.1 bt587.1 (bt587.2 != 0) a2_0 a2_1) else (verditerlaw06_weighFinds.j0 k bt582.1 bt582.2.1 bt587.1 true a2_0 a2_1)))) else ((verditerlaw06_known.f k).bind fun t581 => (some t581)))))
theorem verditerlaw06_weighFinds.mono_l : ∀ k, (∀ y0 y1 y2 y3 y4 y5, LeO (verditerlaw06_weighFinds.j0 k y0 y1 y2 y3 y4 y5) (verditerlaw06_weighFinds.j0 (k + 1) y0 y1 y2 y3 y4 y5)) ∧ (∀ y0 y1 y2 y3 y4 y5 y6, LeO (verditerlaw06_weighFinds.l0 k y0 y1 y2 y3 y4 y5 y6) (verditerlaw06_weighFinds.l0 (k + 1) y0 y1 y2 y3 y4 y5 y6))
  | 0 => ⟨fun _ _ _ _ _ _ r h => by simp [verditerlaw06_weighFinds.j0] at h, fun _ _ _ _ _ _ _ r h => by simp [verditerlaw06_weighFinds.l0] at h⟩
  | k + 1 => by
    obtain ⟨ih0, ih1⟩ := verditerlaw06_weighFinds.mono_l k
    refine ⟨?_, ?_⟩
    · intro y0 y1 y2 y3 y4 y5
      unfold verditerlaw06_weighFinds.j0
      repeat' first
      | (with_reducible exact ih0 _ _ _ _ _ _)
      | (with_reducible exact ih1 _ _ _ _ _ _ _)
      | (with_reducible exact verditerlaw06_Long.mono _ _)
      | (with_reducible exact verditerlaw06_known.mono _)
      | (with_reducible exact LeO.refl _)
      | (with_reducible exact LeO.none _)
      | (with_reducible refine LeO.ite ?_ ?_)
      | (with_reducible refine LeO.bind ?_ (fun _ => ?_))
      | exact ih0 _ _ _ _ _ _
      | exact ih1 _ _ _ _ _ _ _
      | exact verditerlaw06_Long.mono _ _
      | exact verditerlaw06_known.mono _
      | exact LeO.none _
      | refine LeO.ite ?_ ?_
      | refine LeO.bind ?_ (fun _ => ?_)
    · intro y0 y1 y2 y3 y4 y5 y6
      unfold verditerlaw06_weighFinds.l0
      repeat' first
      | (with_reducible exact ih0 _ _ _ _ _ _)
      | (with_reducible exact ih1 _ _ _ _ _ _ _)
      | (with_reducible exact verditerlaw06_Long.mono _ _)
      | (with_reducible exact verditerlaw06_known.mono _)
      | (with_reducible exact LeO.refl _)
      | (with_reducible exact LeO.none _)
      | (with_reducible refine LeO.ite ?_ ?_)
      | (with_reducible refine LeO.bind ?_ (fun _ => ?_))
      | exact ih0 _ _ _ _ _ _
      | exact ih1 _ _ _ _ _ _ _
      | exact verditerlaw06_Long.mono _ _
      | exact verditerlaw06_known.mono _
      | exact LeO.none _
      | refine LeO.ite ?_ ?_
      | refine LeO.bind ?_ (fun _ => ?_)
theorem verditerlaw06_weighFinds.mono : ∀ a0 a1 a2 a3 k, LeO (verditerlaw06_weighFinds.f k a0 a1 a2 a3) (verditerlaw06_weighFinds.f (k + 1) a0 a1 a2 a3) := by
  intro a0 a1 a2 a3 k
  obtain ⟨ih0, ih1⟩ := verditerlaw06_weighFinds.mono_l k
  unfold verditerlaw06_weighFinds.f
  repeat' first
      | (with_reducible exact ih0 _ _ _ _ _ _)
      | (with_reducible exact ih1 _ _ _ _ _ _ _)
      | (with_reducible exact verditerlaw06_Long.mono _ _)
      | (with_reducible exact verditerlaw06_known.mono _)
      | (with_reducible exact LeO.refl _)
      | (with_reducible exact LeO.none _)
      | (with_reducible refine LeO.ite ?_ ?_)
      | (with_reducible refine LeO.bind ?_ (fun _ => ?_))
      | exact ih0 _ _ _ _ _ _
      | exact ih1 _ _ _ _ _ _ _
      | exact verditerlaw06_Long.mono _ _
      | exact verditerlaw06_known.mono _
      | exact LeO.none _
      | refine LeO.ite ?_ ?_
      | refine LeO.bind ?_ (fun _ => ?_)
set_option maxHeartbeats 8000000 in
set_option maxRecDepth 100000 in
theorem verditerlaw06_weighFinds.calls (k : Nat) (a0 : Int) (A1 : Option Addr) (c1 : Nat) (l1 : List (S53)) (a2_0 : Int) (a2_1 : Int) (r : Bool) (w : World) (hr1 : Kd.C k53 w A1 l1.length l1) (hc1 : l1.length ≤ c1) (h : verditerlaw06_weighFinds.f k a0 l1 a2_0 a2_1 = some r) :
    Calls Try.prog 40 #[.int .i64 a0, .slice A1 l1.length c1, .agg #[.int .i64 a2_0, .int .i64 a2_1]] w fun e w' => e = .returned (.bool r) ∧ Below w.heap.size w w' := by
  have hu35 := Try.underlying35
  have HR1 := Aside0.mk hr1
  have HC1 := Aside0.mk hc1
  clear hr1 hc1
  have HB := Aside0.mk (Below.refl w.heap.size w)
  have H : ((verditerlaw06_Long.f k l1).bind fun t575 => (if t575 = true then ((verditerlaw06_known.f k).bind fun t576 => (some t576)) else ((weigh_Answers.f a0 l1 a2_0 a2_1).bind fun bt577 => (if bt577.2 = 0 then ((weigh_Cases.f a0 l1 bt577.1).bind fun bt582 => ((weigh_Tells.f a0 l1).bind fun bt587 => (if bt582.2.2 = 0 then (verditerlaw06_weighFinds.j0 k bt582.1 bt582.2.1 bt587.1 (bt587.2 != 0) a2_0 a2_1) else (verditerlaw06_weighFinds.j0 k bt582.1 bt582.2.1 bt587.1 true a2_0 a2_1)))) else ((verditerlaw06_known.f k).bind fun t581 => (some t581)))))) = some r := h
  clear h
  replace H := Option.bind_eq_some_iff.mp H
  obtain ⟨t575, A40, H⟩ := H
  replace H : (if t575 = true then ((verditerlaw06_known.f k).bind fun t576 => (some t576)) else ((weigh_Answers.f a0 l1 a2_0 a2_1).bind fun bt577 => (if bt577.2 = 0 then ((weigh_Cases.f a0 l1 bt577.1).bind fun bt582 => ((weigh_Tells.f a0 l1).bind fun bt587 => (if bt582.2.2 = 0 then (verditerlaw06_weighFinds.j0 k bt582.1 bt582.2.1 bt587.1 (bt587.2 != 0) a2_0 a2_1) else (verditerlaw06_weighFinds.j0 k bt582.1 bt582.2.1 bt587.1 true a2_0 a2_1)))) else ((verditerlaw06_known.f k).bind fun t581 => (some t581))))) = some r := H
  have A4 := Aside0.mk A40
  clear A40
  by_cases c5 : t575 = true
  · subst c5
    have H1 : ((verditerlaw06_known.f k).bind fun t576 => (some t576)) = some r := by rw [if_pos rfl] at H; exact H
    clear H
    have H := H1
    clear H1
    replace H := Option.bind_eq_some_iff.mp H
    obtain ⟨t576, A60, H⟩ := H
    replace H : (some t576) = some r := H
    have A6 := Aside0.mk A60
    clear A60
    obtain rfl := Option.some.inj H
    go_enter Try.func40, Try.ntmps40
    go_wp2_with (first | ((with_reducible refine gate_dst (N := 5) rfl ?_); (try (refine gate_guard (by rfl) ?_; dsimp only)); refine box_event ?hg (N := 5) ?hd (cs := #[.int .i64 a2_0, .int .i64 a2_1]) (t := 35) ?hr ?_; (case hd => rfl); (case hg => rfl); (case hr => first | (go_simp; done) | (go_simp; rfl)); intro gb574 hg w7 hbox hb; have n0_ := Aside0.mk (below_step (by repeat (first | (with_reducible first | exact HB.out | apply below_alloc | apply pw_below_drewN | apply below_drew1) | exact HB.out)) hb); have n1_ := Aside0.mk (hbox); have n2_ := Aside0.mk ((by rw [hg]; exact (below_size (by repeat (first | (with_reducible first | exact HB.out | apply below_alloc | apply pw_below_drewN | apply below_drew1) | exact HB.out))) : w.heap.size ≤ gb574)); have n3_ := Aside0.mk ((by rw [hg]; exact (below_size (by repeat (first | (with_reducible first | exact HB.out | apply below_alloc | apply pw_below_drewN | apply below_drew1) | exact HB.out))) : w.heap.size ≤ gb574)); clear HB; have HB := n0_; have BK574 := n1_; have GW574 := n2_; have GE574 := n3_; clear n0_ n1_ n2_ n3_; clear hb hbox hg) | (go_at_call 43; (with_reducible refine (verditerlaw06_Long.calls k _ _ l1 true _ ?side1 ?side2 A4.out).mono ?_); (case side1 => repeat (first | exact (Kd.C_below HR1.out HB.out) | (with_reducible refine Kd.C_alloc ?_ _) | (with_reducible refine Kd.C_drewN ?_ _) | (with_reducible refine Kd.C_drew ?_))); (case side2 => exact HC1.out); rintro e w' ⟨rfl, ⟨nd, rfl⟩⟩; (try first | exact ⟨rfl, _, World.drewN_drewN _ _ _⟩ | exact ⟨rfl, _, Eq.trans (World.drewN_drewN _ _ _) (congrArg (World.drewN _) (Nat.add_assoc _ _ _))⟩)) | (go_at_call 25; (with_reducible refine (verditerlaw06_known.calls k  t576 _ A6.out).mono ?_); rintro e w8 ⟨rfl, hb⟩; have n0_ := Aside0.mk (blk_below (g := gb574) (o := .cells #[.int .i64 a2_0, .int .i64 a2_1] 35 (0, 0)) (by (with_reducible repeat (first | refine blk_drewN ?_ _ | refine blk_drew ?_ | refine blk_alloc ?_ _)); exact BK574.out) hb); have n1_ := Aside0.mk (below_step (by repeat (first | (with_reducible first | exact HB.out | apply below_alloc | apply pw_below_drewN | apply below_drew1 | refine below_set ?_ GE574.out) | exact HB.out)) hb); clear BK574; clear HB; have BK574 := n0_; have HB := n1_; clear n0_ n1_; (try clear hb); (try clear hb2); (try clear hk); (try clear hi)))
    repeat (go_quiet (first | ((with_reducible refine gate_dst (N := 5) rfl ?_); (try (refine gate_guard (by rfl) ?_; dsimp only)); refine box_event ?hg (N := 5) ?hd (cs := #[.int .i64 a2_0, .int .i64 a2_1]) (t := 35) ?hr ?_; (case hd => rfl); (case hg => rfl); (case hr => first | (go_simp; done) | (go_simp; rfl)); intro gb574 hg w7 hbox hb; have n0_ := Aside0.mk (below_step (by repeat (first | (with_reducible first | exact HB.out | apply below_alloc | apply pw_below_drewN | apply below_drew1) | exact HB.out)) hb); have n1_ := Aside0.mk (hbox); have n2_ := Aside0.mk ((by rw [hg]; exact (below_size (by repeat (first | (with_reducible first | exact HB.out | apply below_alloc | apply pw_below_drewN | apply below_drew1) | exact HB.out))) : w.heap.size ≤ gb574)); have n3_ := Aside0.mk ((by rw [hg]; exact (below_size (by repeat (first | (with_reducible first | exact HB.out | apply below_alloc | apply pw_below_drewN | apply below_drew1) | exact HB.out))) : w.heap.size ≤ gb574)); clear HB; have HB := n0_; have BK574 := n1_; have GW574 := n2_; have GE574 := n3_; clear n0_ n1_ n2_ n3_; clear hb hbox hg) | (go_at_call 43; (with_reducible refine (verditerlaw06_Long.calls k _ _ l1 true _ ?side1 ?side2 A4.out).mono ?_); (case side1 => repeat (first | exact (Kd.C_below HR1.out HB.out) | (with_reducible refine Kd.C_alloc ?_ _) | (with_reducible refine Kd.C_drewN ?_ _) | (with_reducible refine Kd.C_drew ?_))); (case side2 => exact HC1.out); rintro e w' ⟨rfl, ⟨nd, rfl⟩⟩; (try first | exact ⟨rfl, _, World.drewN_drewN _ _ _⟩ | exact ⟨rfl, _, Eq.trans (World.drewN_drewN _ _ _) (congrArg (World.drewN _) (Nat.add_assoc _ _ _))⟩)) | (go_at_call 25; (with_reducible refine (verditerlaw06_known.calls k  t576 _ A6.out).mono ?_); rintro e w8 ⟨rfl, hb⟩; have n0_ := Aside0.mk (blk_below (g := gb574) (o := .cells #[.int .i64 a2_0, .int .i64 a2_1] 35 (0, 0)) (by (with_reducible repeat (first | refine blk_drewN ?_ _ | refine blk_drew ?_ | refine blk_alloc ?_ _)); exact BK574.out) hb); have n1_ := Aside0.mk (below_step (by repeat (first | (with_reducible first | exact HB.out | apply below_alloc | apply pw_below_drewN | apply below_drew1 | refine below_set ?_ GE574.out) | exact HB.out)) hb); clear BK574; clear HB; have BK574 := n0_; have HB := n1_; clear n0_ n1_; (try clear hb); (try clear hb2); (try clear hk); (try clear hi))); try go_wp2_with (first | ((with_reducible refine gate_dst (N := 5) rfl ?_); (try (refine gate_guard (by rfl) ?_; dsimp only)); refine box_event ?hg (N := 5) ?hd (cs := #[.int .i64 a2_0, .int .i64 a2_1]) (t := 35) ?hr ?_; (case hd => rfl); (case hg => rfl); (case hr => first | (go_simp; done) | (go_simp; rfl)); intro gb574 hg w7 hbox hb; have n0_ := Aside0.mk (below_step (by repeat (first | (with_reducible first | exact HB.out | apply below_alloc | apply pw_below_drewN | apply below_drew1) | exact HB.out)) hb); have n1_ := Aside0.mk (hbox); have n2_ := Aside0.mk ((by rw [hg]; exact (below_size (by repeat (first | (with_reducible first | exact HB.out | apply below_alloc | apply pw_below_drewN | apply below_drew1) | exact HB.out))) : w.heap.size ≤ gb574)); have n3_ := Aside0.mk ((by rw [hg]; exact (below_size (by repeat (first | (with_reducible first | exact HB.out | apply below_alloc | apply pw_below_drewN | apply below_drew1) | exact HB.out))) : w.heap.size ≤ gb574)); clear HB; have HB := n0_; have BK574 := n1_; have GW574 := n2_; have GE574 := n3_; clear n0_ n1_ n2_ n3_; clear hb hbox hg) | (go_at_call 43; (with_reducible refine (verditerlaw06_Long.calls k _ _ l1 true _ ?side1 ?side2 A4.out).mono ?_); (case side1 => repeat (first | exact (Kd.C_below HR1.out HB.out) | (with_reducible refine Kd.C_alloc ?_ _) | (with_reducible refine Kd.C_drewN ?_ _) | (with_reducible refine Kd.C_drew ?_))); (case side2 => exact HC1.out); rintro e w' ⟨rfl, ⟨nd, rfl⟩⟩; (try first | exact ⟨rfl, _, World.drewN_drewN _ _ _⟩ | exact ⟨rfl, _, Eq.trans (World.drewN_drewN _ _ _) (congrArg (World.drewN _) (Nat.add_assoc _ _ _))⟩)) | (go_at_call 25; (with_reducible refine (verditerlaw06_known.calls k  t576 _ A6.out).mono ?_); rintro e w8 ⟨rfl, hb⟩; have n0_ := Aside0.mk (blk_below (g := gb574) (o := .cells #[.int .i64 a2_0, .int .i64 a2_1] 35 (0, 0)) (by (with_reducible repeat (first | refine blk_drewN ?_ _ | refine blk_drew ?_ | refine blk_alloc ?_ _)); exact BK574.out) hb); have n1_ := Aside0.mk (below_step (by repeat (first | (with_reducible first | exact HB.out | apply below_alloc | apply pw_below_drewN | apply below_drew1 | refine below_set ?_ GE574.out) | exact HB.out)) hb); clear BK574; clear HB; have BK574 := n0_; have HB := n1_; clear n0_ n1_; (try clear hb); (try clear hb2); (try clear hk); (try clear hi))))
    go_ret
    exact ⟨by first | rfl | (simp [errW_none, errW_some] <;> rfl) | (simp [*, errW_none, errW_some] <;> rfl), by repeat (first | (with_reducible first | exact HB.out | apply below_alloc | apply pw_below_drewN | apply below_drew1 | refine below_set ?_ GE574.out) | exact HB.out)⟩
  · replace c5 := Bool.eq_false_iff.mpr c5
    subst c5
    have H1 : ((weigh_Answers.f a0 l1 a2_0 a2_1).bind fun bt577 => (if bt577.2 = 0 then ((weigh_Cases.f a0 l1 bt577.1).bind fun bt582 => ((weigh_Tells.f a0 l1).bind fun bt587 => (if bt582.2.2 = 0 then (verditerlaw06_weighFinds.j0 k bt582.1 bt582.2.1 bt587.1 (bt587.2 != 0) a2_0 a2_1) else (verditerlaw06_weighFinds.j0 k bt582.1 bt582.2.1 bt587.1 true a2_0 a2_1)))) else ((verditerlaw06_known.f k).bind fun t581 => (some t581)))) = some r := by rw [if_neg (show ¬ (false = true) by decide)] at H; exact H
    clear H
    have H := H1
    clear H1
    replace H := Option.bind_eq_some_iff.mp H
    obtain ⟨⟨t577, t580⟩, A90, H⟩ := H
    replace H : (if t580 = 0 then ((weigh_Cases.f a0 l1 t577).bind fun bt582 => ((weigh_Tells.f a0 l1).bind fun bt587 => (if bt582.2.2 = 0 then (verditerlaw06_weighFinds.j0 k bt582.1 bt582.2.1 bt587.1 (bt587.2 != 0) a2_0 a2_1) else (verditerlaw06_weighFinds.j0 k bt582.1 bt582.2.1 bt587.1 true a2_0 a2_1)))) else ((verditerlaw06_known.f k).bind fun t581 => (some t581))) = some r := H
    have A9 := Aside0.mk A90
    clear A90
    by_cases c10 : t580 = 0
    · rw [if_pos c10] at H
      have c10b0 : (t580 == 0) = true := beq_iff_eq.mpr c10
      have c10b1 : (t580 != 0) = false := bne_eq_false_iff_eq.mpr c10
      clear c10
      replace H := Option.bind_eq_some_iff.mp H
      obtain ⟨⟨t582, t583, t584⟩, A110, H⟩ := H
      replace H : ((weigh_Tells.f a0 l1).bind fun bt587 => (if t584 = 0 then (verditerlaw06_weighFinds.j0 k t582 t583 bt587.1 (bt587.2 != 0) a2_0 a2_1) else (verditerlaw06_weighFinds.j0 k t582 t583 bt587.1 true a2_0 a2_1))) = some r := H
      have A11 := Aside0.mk A110
      clear A110
      replace H := Option.bind_eq_some_iff.mp H
      obtain ⟨⟨t587, t588⟩, A120, H⟩ := H
      replace H : (if t584 = 0 then (verditerlaw06_weighFinds.j0 k t582 t583 t587 (t588 != 0) a2_0 a2_1) else (verditerlaw06_weighFinds.j0 k t582 t583 t587 true a2_0 a2_1)) = some r := H
      have A12 := Aside0.mk A120
      clear A120
      have HC13 := Aside0.mk H
      clear H
      go_enter Try.func40, Try.ntmps40
      go_upto_region 8 with (first | ((with_reducible refine gate_dst (N := 5) rfl ?_); (try (refine gate_guard (by rfl) ?_; dsimp only)); refine box_event ?hg (N := 5) ?hd (cs := #[.int .i64 a2_0, .int .i64 a2_1]) (t := 35) ?hr ?_; (case hd => rfl); (case hg => rfl); (case hr => first | (go_simp; done) | (go_simp; rfl)); intro gb574 hg w14 hbox hb; have n0_ := Aside0.mk (below_step (by repeat (first | (with_reducible first | exact HB.out | apply below_alloc | apply pw_below_drewN | apply below_drew1) | exact HB.out)) hb); have n1_ := Aside0.mk (hbox); have n2_ := Aside0.mk ((by rw [hg]; exact (below_size (by repeat (first | (with_reducible first | exact HB.out | apply below_alloc | apply pw_below_drewN | apply below_drew1) | exact HB.out))) : w.heap.size ≤ gb574)); have n3_ := Aside0.mk ((by rw [hg]; exact (below_size (by repeat (first | (with_reducible first | exact HB.out | apply below_alloc | apply pw_below_drewN | apply below_drew1) | exact HB.out))) : w.heap.size ≤ gb574)); clear HB; have HB := n0_; have BK574 := n1_; have GW574 := n2_; have GE574 := n3_; clear n0_ n1_ n2_ n3_; clear hb hbox hg) | (go_at_call 43; (with_reducible refine (verditerlaw06_Long.calls k _ _ l1 false _ ?side1 ?side2 A4.out).mono ?_); (case side1 => repeat (first | exact (Kd.C_below HR1.out HB.out) | (with_reducible refine Kd.C_alloc ?_ _) | (with_reducible refine Kd.C_drewN ?_ _) | (with_reducible refine Kd.C_drew ?_))); (case side2 => exact HC1.out); rintro e w' ⟨rfl, ⟨nd, rfl⟩⟩; (try first | exact ⟨rfl, _, World.drewN_drewN _ _ _⟩ | exact ⟨rfl, _, Eq.trans (World.drewN_drewN _ _ _) (congrArg (World.drewN _) (Nat.add_assoc _ _ _))⟩); have hcz15_0 : w14.cell? ⟨gb574, 0, none⟩ = some (.int .i64 a2_0) := (blk_cell BK574.out 0).trans rfl; have hcz15_1 : w14.cell? ⟨gb574, 1, none⟩ = some (.int .i64 a2_1) := (blk_cell BK574.out 1).trans rfl; have hfz15_0 := blk_frozen BK574.out 0; have hfz15_1 := blk_frozen BK574.out 1) | (go_at_call 57; (with_reducible refine (weigh_Answers.calls a0 _ _ l1 a2_0 a2_1 t577 t580 _ ?side1 ?side2 A9.out).mono ?_); (case side1 => repeat (first | exact (Kd.C_below HR1.out (by repeat (first | (with_reducible first | exact HB.out | apply below_alloc | apply pw_below_drewN | apply below_drew1 | refine below_set ?_ GE574.out) | exact HB.out))) | (with_reducible refine Kd.C_alloc ?_ _) | (with_reducible refine Kd.C_drewN ?_ _) | (with_reducible refine Kd.C_drew ?_))); (case side2 => exact HC1.out); rintro e w16 ⟨v578, rfl, ho0, hb⟩; have n0_ := Aside0.mk (Kd.R_lower ho0 (below_size (by repeat (first | (with_reducible first | exact HB.out | apply below_alloc | apply pw_below_drewN | apply below_drew1 | refine below_set ?_ GE574.out) | exact HB.out)))); have n1_ := Aside0.mk (blk_below (g := gb574) (o := .cells #[.int .i64 a2_0, .int .i64 a2_1] 35 (0, 0)) (by (with_reducible repeat (first | refine blk_drewN ?_ _ | refine blk_drew ?_ | refine blk_alloc ?_ _)); exact BK574.out) hb); have n2_ := Aside0.mk (below_step (by repeat (first | (with_reducible first | exact HB.out | apply below_alloc | apply pw_below_drewN | apply below_drew1 | refine below_set ?_ GE574.out) | exact HB.out)) hb); clear BK574; clear HB; have HO579 := n0_; have BK574 := n1_; have HB := n2_; clear n0_ n1_ n2_; (try clear hb); (try clear hb2); (try clear hk); (try clear hi); (try clear ho0); obtain ⟨Ao17, co17, eo17⟩ := Kd.R_slice HO579.out; subst eo17) | (go_at_call 64; (with_reducible refine (weigh_Cases.calls a0 _ _ l1 _ _ t577 t582 t583 t584 _ ?side1 ?side2 ?side3 ?side4 A11.out).mono ?_); (case side1 => repeat (first | exact (Kd.C_below HR1.out HB.out) | (with_reducible refine Kd.C_alloc ?_ _) | (with_reducible refine Kd.C_drewN ?_ _) | (with_reducible refine Kd.C_drew ?_))); (case side2 => exact HC1.out); (case side3 => repeat (first | exact (Kd.R_reads' HO579.out).2.2 | (with_reducible refine Kd.C_alloc ?_ _) | (with_reducible refine Kd.C_drewN ?_ _) | (with_reducible refine Kd.C_drew ?_))); (case side4 => exact (Kd.R_reads' HO579.out).2.1); rintro e w18 ⟨v585, rfl, ho0, hb⟩; have n0_ := Aside0.mk (Kd.R_below (by (with_reducible repeat (first | apply Kd.R_alloc | apply Kd.R_drewN | apply Kd.R_drew)); exact HO579.out) hb); have n1_ := Aside0.mk (Kd.R_lower (Kd.R_newB ho0 (g := gb574) (o := .cells #[.int .i64 a2_0, .int .i64 a2_1] 35 (0, 0)) (by (with_reducible repeat (first | refine blk_drewN ?_ _ | refine blk_drew ?_ | refine blk_alloc ?_ _)); exact BK574.out)) (below_size (by repeat (first | (with_reducible first | exact HB.out | apply below_alloc | apply pw_below_drewN | apply below_drew1 | refine below_set ?_ GE574.out) | exact HB.out)))); have n2_ := Aside0.mk (blk_below (g := gb574) (o := .cells #[.int .i64 a2_0, .int .i64 a2_1] 35 (0, 0)) (by (with_reducible repeat (first | refine blk_drewN ?_ _ | refine blk_drew ?_ | refine blk_alloc ?_ _)); exact BK574.out) hb); have n3_ := Aside0.mk (below_step (by repeat (first | (with_reducible first | exact HB.out | apply below_alloc | apply pw_below_drewN | apply below_drew1 | refine below_set ?_ GE574.out) | exact HB.out)) hb); clear HO579; clear BK574; clear HB; have HO579 := n0_; have HO586 := n1_; have BK574 := n2_; have HB := n3_; clear n0_ n1_ n2_ n3_; (try clear hb); (try clear hb2); (try clear hk); (try clear hi); (try clear ho0)) | (go_at_call 44; (with_reducible refine (weigh_Tells.calls a0 _ _ l1 t587 t588 _ ?side1 ?side2 A12.out).mono ?_); (case side1 => repeat (first | exact (Kd.C_below HR1.out HB.out) | (with_reducible refine Kd.C_alloc ?_ _) | (with_reducible refine Kd.C_drewN ?_ _) | (with_reducible refine Kd.C_drew ?_))); (case side2 => exact HC1.out); rintro e w19 ⟨rfl, hb⟩; have n0_ := Aside0.mk (Kd.R_below (by (with_reducible repeat (first | apply Kd.R_alloc | apply Kd.R_drewN | apply Kd.R_drew)); exact HO579.out) hb); have n1_ := Aside0.mk (Kd.R_below (by (with_reducible repeat (first | apply Kd.R_alloc | apply Kd.R_drewN | apply Kd.R_drew)); exact HO586.out) hb); have n2_ := Aside0.mk (blk_below (g := gb574) (o := .cells #[.int .i64 a2_0, .int .i64 a2_1] 35 (0, 0)) (by (with_reducible repeat (first | refine blk_drewN ?_ _ | refine blk_drew ?_ | refine blk_alloc ?_ _)); exact BK574.out) hb); have n3_ := Aside0.mk (below_step (by repeat (first | (with_reducible first | exact HB.out | apply below_alloc | apply pw_below_drewN | apply below_drew1 | refine below_set ?_ GE574.out) | exact HB.out)) hb); clear HO579; clear HO586; clear BK574; clear HB; have HO579 := n0_; have HO586 := n1_; have BK574 := n2_; have HB := n3_; clear n0_ n1_ n2_ n3_; (try clear hb); (try clear hb2); (try clear hk); (try clear hi)))
      repeat (go_quiet (first | ((with_reducible refine gate_dst (N := 5) rfl ?_); (try (refine gate_guard (by rfl) ?_; dsimp only)); refine box_event ?hg (N := 5) ?hd (cs := #[.int .i64 a2_0, .int .i64 a2_1]) (t := 35) ?hr ?_; (case hd => rfl); (case hg => rfl); (case hr => first | (go_simp; done) | (go_simp; rfl)); intro gb574 hg w14 hbox hb; have n0_ := Aside0.mk (below_step (by repeat (first | (with_reducible first | exact HB.out | apply below_alloc | apply pw_below_drewN | apply below_drew1) | exact HB.out)) hb); have n1_ := Aside0.mk (hbox); have n2_ := Aside0.mk ((by rw [hg]; exact (below_size (by repeat (first | (with_reducible first | exact HB.out | apply below_alloc | apply pw_below_drewN | apply below_drew1) | exact HB.out))) : w.heap.size ≤ gb574)); have n3_ := Aside0.mk ((by rw [hg]; exact (below_size (by repeat (first | (with_reducible first | exact HB.out | apply below_alloc | apply pw_below_drewN | apply below_drew1) | exact HB.out))) : w.heap.size ≤ gb574)); clear HB; have HB := n0_; have BK574 := n1_; have GW574 := n2_; have GE574 := n3_; clear n0_ n1_ n2_ n3_; clear hb hbox hg) | (go_at_call 43; (with_reducible refine (verditerlaw06_Long.calls k _ _ l1 false _ ?side1 ?side2 A4.out).mono ?_); (case side1 => repeat (first | exact (Kd.C_below HR1.out HB.out) | (with_reducible refine Kd.C_alloc ?_ _) | (with_reducible refine Kd.C_drewN ?_ _) | (with_reducible refine Kd.C_drew ?_))); (case side2 => exact HC1.out); rintro e w' ⟨rfl, ⟨nd, rfl⟩⟩; (try first | exact ⟨rfl, _, World.drewN_drewN _ _ _⟩ | exact ⟨rfl, _, Eq.trans (World.drewN_drewN _ _ _) (congrArg (World.drewN _) (Nat.add_assoc _ _ _))⟩); have hcz15_0 : w14.cell? ⟨gb574, 0, none⟩ = some (.int .i64 a2_0) := (blk_cell BK574.out 0).trans rfl; have hcz15_1 : w14.cell? ⟨gb574, 1, none⟩ = some (.int .i64 a2_1) := (blk_cell BK574.out 1).trans rfl; have hfz15_0 := blk_frozen BK574.out 0; have hfz15_1 := blk_frozen BK574.out 1) | (go_at_call 57; (with_reducible refine (weigh_Answers.calls a0 _ _ l1 a2_0 a2_1 t577 t580 _ ?side1 ?side2 A9.out).mono ?_); (case side1 => repeat (first | exact (Kd.C_below HR1.out (by repeat (first | (with_reducible first | exact HB.out | apply below_alloc | apply pw_below_drewN | apply below_drew1 | refine below_set ?_ GE574.out) | exact HB.out))) | (with_reducible refine Kd.C_alloc ?_ _) | (with_reducible refine Kd.C_drewN ?_ _) | (with_reducible refine Kd.C_drew ?_))); (case side2 => exact HC1.out); rintro e w16 ⟨v578, rfl, ho0, hb⟩; have n0_ := Aside0.mk (Kd.R_lower ho0 (below_size (by repeat (first | (with_reducible first | exact HB.out | apply below_alloc | apply pw_below_drewN | apply below_drew1 | refine below_set ?_ GE574.out) | exact HB.out)))); have n1_ := Aside0.mk (blk_below (g := gb574) (o := .cells #[.int .i64 a2_0, .int .i64 a2_1] 35 (0, 0)) (by (with_reducible repeat (first | refine blk_drewN ?_ _ | refine blk_drew ?_ | refine blk_alloc ?_ _)); exact BK574.out) hb); have n2_ := Aside0.mk (below_step (by repeat (first | (with_reducible first | exact HB.out | apply below_alloc | apply pw_below_drewN | apply below_drew1 | refine below_set ?_ GE574.out) | exact HB.out)) hb); clear BK574; clear HB; have HO579 := n0_; have BK574 := n1_; have HB := n2_; clear n0_ n1_ n2_; (try clear hb); (try clear hb2); (try clear hk); (try clear hi); (try clear ho0); obtain ⟨Ao17, co17, eo17⟩ := Kd.R_slice HO579.out; subst eo17) | (go_at_call 64; (with_reducible refine (weigh_Cases.calls a0 _ _ l1 _ _ t577 t582 t583 t584 _ ?side1 ?side2 ?side3 ?side4 A11.out).mono ?_); (case side1 => repeat (first | exact (Kd.C_below HR1.out HB.out) | (with_reducible refine Kd.C_alloc ?_ _) | (with_reducible refine Kd.C_drewN ?_ _) | (with_reducible refine Kd.C_drew ?_))); (case side2 => exact HC1.out); (case side3 => repeat (first | exact (Kd.R_reads' HO579.out).2.2 | (with_reducible refine Kd.C_alloc ?_ _) | (with_reducible refine Kd.C_drewN ?_ _) | (with_reducible refine Kd.C_drew ?_))); (case side4 => exact (Kd.R_reads' HO579.out).2.1); rintro e w18 ⟨v585, rfl, ho0, hb⟩; have n0_ := Aside0.mk (Kd.R_below (by (with_reducible repeat (first | apply Kd.R_alloc | apply Kd.R_drewN | apply Kd.R_drew)); exact HO579.out) hb); have n1_ := Aside0.mk (Kd.R_lower (Kd.R_newB ho0 (g := gb574) (o := .cells #[.int .i64 a2_0, .int .i64 a2_1] 35 (0, 0)) (by (with_reducible repeat (first | refine blk_drewN ?_ _ | refine blk_drew ?_ | refine blk_alloc ?_ _)); exact BK574.out)) (below_size (by repeat (first | (with_reducible first | exact HB.out | apply below_alloc | apply pw_below_drewN | apply below_drew1 | refine below_set ?_ GE574.out) | exact HB.out)))); have n2_ := Aside0.mk (blk_below (g := gb574) (o := .cells #[.int .i64 a2_0, .int .i64 a2_1] 35 (0, 0)) (by (with_reducible repeat (first | refine blk_drewN ?_ _ | refine blk_drew ?_ | refine blk_alloc ?_ _)); exact BK574.out) hb); have n3_ := Aside0.mk (below_step (by repeat (first | (with_reducible first | exact HB.out | apply below_alloc | apply pw_below_drewN | apply below_drew1 | refine below_set ?_ GE574.out) | exact HB.out)) hb); clear HO579; clear BK574; clear HB; have HO579 := n0_; have HO586 := n1_; have BK574 := n2_; have HB := n3_; clear n0_ n1_ n2_ n3_; (try clear hb); (try clear hb2); (try clear hk); (try clear hi); (try clear ho0)) | (go_at_call 44; (with_reducible refine (weigh_Tells.calls a0 _ _ l1 t587 t588 _ ?side1 ?side2 A12.out).mono ?_); (case side1 => repeat (first | exact (Kd.C_below HR1.out HB.out) | (with_reducible refine Kd.C_alloc ?_ _) | (with_reducible refine Kd.C_drewN ?_ _) | (with_reducible refine Kd.C_drew ?_))); (case side2 => exact HC1.out); rintro e w19 ⟨rfl, hb⟩; have n0_ := Aside0.mk (Kd.R_below (by (with_reducible repeat (first | apply Kd.R_alloc | apply Kd.R_drewN | apply Kd.R_drew)); exact HO579.out) hb); have n1_ := Aside0.mk (Kd.R_below (by (with_reducible repeat (first | apply Kd.R_alloc | apply Kd.R_drewN | apply Kd.R_drew)); exact HO586.out) hb); have n2_ := Aside0.mk (blk_below (g := gb574) (o := .cells #[.int .i64 a2_0, .int .i64 a2_1] 35 (0, 0)) (by (with_reducible repeat (first | refine blk_drewN ?_ _ | refine blk_drew ?_ | refine blk_alloc ?_ _)); exact BK574.out) hb); have n3_ := Aside0.mk (below_step (by repeat (first | (with_reducible first | exact HB.out | apply below_alloc | apply pw_below_drewN | apply below_drew1 | refine below_set ?_ GE574.out) | exact HB.out)) hb); clear HO579; clear HO586; clear BK574; clear HB; have HO579 := n0_; have HO586 := n1_; have BK574 := n2_; have HB := n3_; clear n0_ n1_ n2_ n3_; (try clear hb); (try clear hb2); (try clear hk); (try clear hi))); go_upto_region 8 with (first | ((with_reducible refine gate_dst (N := 5) rfl ?_); (try (refine gate_guard (by rfl) ?_; dsimp only)); refine box_event ?hg (N := 5) ?hd (cs := #[.int .i64 a2_0, .int .i64 a2_1]) (t := 35) ?hr ?_; (case hd => rfl); (case hg => rfl); (case hr => first | (go_simp; done) | (go_simp; rfl)); intro gb574 hg w14 hbox hb; have n0_ := Aside0.mk (below_step (by repeat (first | (with_reducible first | exact HB.out | apply below_alloc | apply pw_below_drewN | apply below_drew1) | exact HB.out)) hb); have n1_ := Aside0.mk (hbox); have n2_ := Aside0.mk ((by rw [hg]; exact (below_size (by repeat (first | (with_reducible first | exact HB.out | apply below_alloc | apply pw_below_drewN | apply below_drew1) | exact HB.out))) : w.heap.size ≤ gb574)); have n3_ := Aside0.mk ((by rw [hg]; exact (below_size (by repeat (first | (with_reducible first | exact HB.out | apply below_alloc | apply pw_below_drewN | apply below_drew1) | exact HB.out))) : w.heap.size ≤ gb574)); clear HB; have HB := n0_; have BK574 := n1_; have GW574 := n2_; have GE574 := n3_; clear n0_ n1_ n2_ n3_; clear hb hbox hg) | (go_at_call 43; (with_reducible refine (verditerlaw06_Long.calls k _ _ l1 false _ ?side1 ?side2 A4.out).mono ?_); (case side1 => repeat (first | exact (Kd.C_below HR1.out HB.out) | (with_reducible refine Kd.C_alloc ?_ _) | (with_reducible refine Kd.C_drewN ?_ _) | (with_reducible refine Kd.C_drew ?_))); (case side2 => exact HC1.out); rintro e w' ⟨rfl, ⟨nd, rfl⟩⟩; (try first | exact ⟨rfl, _, World.drewN_drewN _ _ _⟩ | exact ⟨rfl, _, Eq.trans (World.drewN_drewN _ _ _) (congrArg (World.drewN _) (Nat.add_assoc _ _ _))⟩); have hcz15_0 : w14.cell? ⟨gb574, 0, none⟩ = some (.int .i64 a2_0) := (blk_cell BK574.out 0).trans rfl; have hcz15_1 : w14.cell? ⟨gb574, 1, none⟩ = some (.int .i64 a2_1) := (blk_cell BK574.out 1).trans rfl; have hfz15_0 := blk_frozen BK574.out 0; have hfz15_1 := blk_frozen BK574.out 1) | (go_at_call 57; (with_reducible refine (weigh_Answers.calls a0 _ _ l1 a2_0 a2_1 t577 t580 _ ?side1 ?side2 A9.out).mono ?_); (case side1 => repeat (first | exact (Kd.C_below HR1.out (by repeat (first | (with_reducible first | exact HB.out | apply below_alloc | apply pw_below_drewN | apply below_drew1 | refine below_set ?_ GE574.out) | exact HB.out))) | (with_reducible refine Kd.C_alloc ?_ _) | (with_reducible refine Kd.C_drewN ?_ _) | (with_reducible refine Kd.C_drew ?_))); (case side2 => exact HC1.out); rintro e w16 ⟨v578, rfl, ho0, hb⟩; have n0_ := Aside0.mk (Kd.R_lower ho0 (below_size (by repeat (first | (with_reducible first | exact HB.out | apply below_alloc | apply pw_below_drewN | apply below_drew1 | refine below_set ?_ GE574.out) | exact HB.out)))); have n1_ := Aside0.mk (blk_below (g := gb574) (o := .cells #[.int .i64 a2_0, .int .i64 a2_1] 35 (0, 0)) (by (with_reducible repeat (first | refine blk_drewN ?_ _ | refine blk_drew ?_ | refine blk_alloc ?_ _)); exact BK574.out) hb); have n2_ := Aside0.mk (below_step (by repeat (first | (with_reducible first | exact HB.out | apply below_alloc | apply pw_below_drewN | apply below_drew1 | refine below_set ?_ GE574.out) | exact HB.out)) hb); clear BK574; clear HB; have HO579 := n0_; have BK574 := n1_; have HB := n2_; clear n0_ n1_ n2_; (try clear hb); (try clear hb2); (try clear hk); (try clear hi); (try clear ho0); obtain ⟨Ao17, co17, eo17⟩ := Kd.R_slice HO579.out; subst eo17) | (go_at_call 64; (with_reducible refine (weigh_Cases.calls a0 _ _ l1 _ _ t577 t582 t583 t584 _ ?side1 ?side2 ?side3 ?side4 A11.out).mono ?_); (case side1 => repeat (first | exact (Kd.C_below HR1.out HB.out) | (with_reducible refine Kd.C_alloc ?_ _) | (with_reducible refine Kd.C_drewN ?_ _) | (with_reducible refine Kd.C_drew ?_))); (case side2 => exact HC1.out); (case side3 => repeat (first | exact (Kd.R_reads' HO579.out).2.2 | (with_reducible refine Kd.C_alloc ?_ _) | (with_reducible refine Kd.C_drewN ?_ _) | (with_reducible refine Kd.C_drew ?_))); (case side4 => exact (Kd.R_reads' HO579.out).2.1); rintro e w18 ⟨v585, rfl, ho0, hb⟩; have n0_ := Aside0.mk (Kd.R_below (by (with_reducible repeat (first | apply Kd.R_alloc | apply Kd.R_drewN | apply Kd.R_drew)); exact HO579.out) hb); have n1_ := Aside0.mk (Kd.R_lower (Kd.R_newB ho0 (g := gb574) (o := .cells #[.int .i64 a2_0, .int .i64 a2_1] 35 (0, 0)) (by (with_reducible repeat (first | refine blk_drewN ?_ _ | refine blk_drew ?_ | refine blk_alloc ?_ _)); exact BK574.out)) (below_size (by repeat (first | (with_reducible first | exact HB.out | apply below_alloc | apply pw_below_drewN | apply below_drew1 | refine below_set ?_ GE574.out) | exact HB.out)))); have n2_ := Aside0.mk (blk_below (g := gb574) (o := .cells #[.int .i64 a2_0, .int .i64 a2_1] 35 (0, 0)) (by (with_reducible repeat (first | refine blk_drewN ?_ _ | refine blk_drew ?_ | refine blk_alloc ?_ _)); exact BK574.out) hb); have n3_ := Aside0.mk (below_step (by repeat (first | (with_reducible first | exact HB.out | apply below_alloc | apply pw_below_drewN | apply below_drew1 | refine below_set ?_ GE574.out) | exact HB.out)) hb); clear HO579; clear BK574; clear HB; have HO579 := n0_; have HO586 := n1_; have BK574 := n2_; have HB := n3_; clear n0_ n1_ n2_ n3_; (try clear hb); (try clear hb2); (try clear hk); (try clear hi); (try clear ho0)) | (go_at_call 44; (with_reducible refine (weigh_Tells.calls a0 _ _ l1 t587 t588 _ ?side1 ?side2 A12.out).mono ?_); (case side1 => repeat (first | exact (Kd.C_below HR1.out HB.out) | (with_reducible refine Kd.C_alloc ?_ _) | (with_reducible refine Kd.C_drewN ?_ _) | (with_reducible refine Kd.C_drew ?_))); (case side2 => exact HC1.out); rintro e w19 ⟨rfl, hb⟩; have n0_ := Aside0.mk (Kd.R_below (by (with_reducible repeat (first | apply Kd.R_alloc | apply Kd.R_drewN | apply Kd.R_drew)); exact HO579.out) hb); have n1_ := Aside0.mk (Kd.R_below (by (with_reducible repeat (first | apply Kd.R_alloc | apply Kd.R_drewN | apply Kd.R_drew)); exact HO586.out) hb); have n2_ := Aside0.mk (blk_below (g := gb574) (o := .cells #[.int .i64 a2_0, .int .i64 a2_1] 35 (0, 0)) (by (with_reducible repeat (first | refine blk_drewN ?_ _ | refine blk_drew ?_ | refine blk_alloc ?_ _)); exact BK574.out) hb); have n3_ := Aside0.mk (below_step (by repeat (first | (with_reducible first | exact HB.out | apply below_alloc | apply pw_below_drewN | apply below_drew1 | refine below_set ?_ GE574.out) | exact HB.out)) hb); clear HO579; clear HO586; clear BK574; clear HB; have HO579 := n0_; have HO586 := n1_; have BK574 := n2_; have HB := n3_; clear n0_ n1_ n2_ n3_; (try clear hb); (try clear hb2); (try clear hk); (try clear hi))))
      (try simp only [Act.put, List.setIfInBounds_toArray, List.set_cons_zero, List.set_cons_succ])
      go_cut [48] (fun v48 wc => ∃ (kq : Nat) (x48_12 : Bool), v48 = .bool x48_12 ∧ Aside0 (verditerlaw06_weighFinds.j0 kq t582 t583 t587 x48_12 a2_0 a2_1 = some r) ∧ Aside0 (kq ≤ k) ∧ Aside0 (Kd.R k35 35 wc w.heap.size (fun k_ => k_ ≠ gb574) v585 t582) ∧ Aside0 (wc.heap[gb574]? = some (.cells #[.int .i64 a2_0, .int .i64 a2_1] 35 (0, 0))) ∧ Aside0 (Below w.heap.size w wc))
      case first =>
        have H := HC13.out
        clear HC13
        by_cases c20 : t584 = 0
        · rw [if_pos c20] at H
          have c20b0 : (t584 == 0) = true := beq_iff_eq.mpr c20
          have c20b1 : (t584 != 0) = false := bne_eq_false_iff_eq.mpr c20
          clear c20
          (first | rw [c20b0] | (simp only [i64_w, i32_w]; rw [c20b0]) | skip)
          have H' := Aside0.mk H
          clear H
          go_wp2
          repeat (go_quiet (fail); try go_wp2)
          go_meet
          case rel => exact ⟨_, ((t588 != 0)), (by first | rfl | (simp; done) | (simp [*]; done)), H', ⟨by first | omega | exact Nat.le_refl _⟩, ⟨by (with_reducible repeat (first | apply Kd.R_alloc | apply Kd.R_drewN | apply Kd.R_drew)); exact Kd.R_mono HO586.out (fun _ hk => hk.2)⟩, ⟨by (with_reducible repeat (first | refine blk_drewN ?_ _ | refine blk_drew ?_ | refine blk_alloc ?_ _)); exact BK574.out⟩, ⟨by repeat (first | (with_reducible first | exact HB.out | apply below_alloc | apply pw_below_drewN | apply below_drew1 | refine below_set ?_ GE574.out) | exact HB.out)⟩⟩
        · rw [if_neg c20] at H
          have c20b0 : (t584 == 0) = false := beq_eq_false_iff_ne.mpr c20
          have c20b1 : (t584 != 0) = true := bne_iff_ne.mpr c20
          (first | rw [c20b0] | (simp only [i64_w, i32_w]; rw [c20b0]) | skip)
          have H' := Aside0.mk H
          clear H
          go_wp2
          repeat (go_quiet (fail); try go_wp2)
          go_meet
          case rel => exact ⟨_, (true), (by first | rfl | (simp; done) | (simp [*]; done)), H', ⟨by first | omega | exact Nat.le_refl _⟩, ⟨by (with_reducible repeat (first | apply Kd.R_alloc | apply Kd.R_drewN | apply Kd.R_drew)); exact Kd.R_mono HO586.out (fun _ hk => hk.2)⟩, ⟨by (with_reducible repeat (first | refine blk_drewN ?_ _ | refine blk_drew ?_ | refine blk_alloc ?_ _)); exact BK574.out⟩, ⟨by repeat (first | (with_reducible first | exact HB.out | apply below_alloc | apply pw_below_drewN | apply below_drew1 | refine below_set ?_ GE574.out) | exact HB.out)⟩⟩
      case rest =>
        clear HC13
        try clear c1
        try clear c2
        try clear p2
        try clear c4
        try clear c5
        try clear c10
        try clear c10b0
        try clear c10b1
        try clear c20
        try clear c20b0
        try clear c20b1
        try clear hcz15_0
        try clear hcz15_1
        try clear hfz15_0
        try clear hfz15_1
        obtain ⟨kq, x48_12, rfl, HA, HJ12, HO_9, BK574, HB⟩ := hcut
        cases kq with
        | zero => exact absurd HA.out (by simp [verditerlaw06_weighFinds.j0])
        | succ kj12 =>
          have H := HA.out
          clear HA
          simp only [verditerlaw06_weighFinds.j0] at H
          by_cases c21 : x48_12 = true
          · subst c21
            have H1 : (some false) = some r := by rw [if_pos rfl] at H; exact H
            clear H
            have H := H1
            clear H1
            obtain rfl := Option.some.inj H
            go_wp2
            repeat (go_quiet (fail); try go_wp2)
            go_ret
            exact ⟨by first | rfl | (simp [errW_none, errW_some] <;> rfl) | (simp [*, errW_none, errW_some] <;> rfl), by repeat (first | (with_reducible first | exact HB.out | apply below_alloc | apply pw_below_drewN | apply below_drew1 | refine below_set ?_ GE574.out) | exact HB.out)⟩
          · replace c21 := Bool.eq_false_iff.mpr c21
            subst c21
            have H1 : (verditerlaw06_weighFinds.l0 kj12 t582 t583 t587 false 0 a2_0 a2_1) = some r := by rw [if_neg (show ¬ (false = true) by decide)] at H; exact H
            clear H
            have H := H1
            clear H1
            have H' := Aside0.mk H
            clear H
            go_wp2
            repeat (go_quiet (fail); try go_wp2)
            go_loopg [14, 15] kj12 (fun kq v14 v15 w' => ∃ (x14_2 : Bool) (x15_2 : Int), v14 = .bool x14_2 ∧ v15 = .int .i64 x15_2 ∧ Aside0 (verditerlaw06_weighFinds.l0 kq t582 t583 t587 x14_2 x15_2 a2_0 a2_1 = some r) ∧ Aside0 (kq ≤ kj12) ∧ Aside0 (Kd.R k35 35 w' w.heap.size (fun k_ => k_ ≠ gb574) v585 t582) ∧ Aside0 (w'.heap[gb574]? = some (.cells #[.int .i64 a2_0, .int .i64 a2_1] 35 (0, 0))) ∧ Aside0 (Below w.heap.size w w'))
            case atStart => exact ⟨(false), (0), (by first | rfl | (simp; done) | (simp [*]; done)), (by first | rfl | (simp; done) | (simp [*]; done)), H', ⟨Nat.le_refl _⟩, ⟨by (with_reducible repeat (first | apply Kd.R_alloc | apply Kd.R_drewN | apply Kd.R_drew)); exact HO_9.out⟩, ⟨by (with_reducible repeat (first | refine blk_drewN ?_ _ | refine blk_drew ?_ | refine blk_alloc ?_ _)); exact BK574.out⟩, ⟨by repeat (first | (with_reducible first | exact HB.out | apply below_alloc | apply pw_below_drewN | apply below_drew1 | refine below_set ?_ GE574.out) | exact HB.out)⟩⟩
            case round =>
              clear H'
              try clear c1
              try clear c2
              try clear p2
              try clear c4
              try clear c5
              try clear c10
              try clear c10b0
              try clear c10b1
              try clear c20
              try clear c20b0
              try clear c20b1
              try clear c21
              try clear hcz15_0
              try clear hcz15_1
              try clear hfz15_0
              try clear hfz15_1
              try clear p2
              obtain ⟨x14_2, x15_2, rfl, rfl, HA, HK2, HO_9, BK574, HB⟩ := hrel
              cases gk with
              | zero => exact absurd HA.out (by simp [verditerlaw06_weighFinds.l0])
              | succ k2 =>
                have H := HA.out
                clear HA
                simp only [verditerlaw06_weighFinds.l0] at H
                by_cases c22 : x15_2 < (t582.length : Int)
                · rw [if_pos c22] at H
                  have c22b0 : decide (x15_2 < (t582.length : Int)) = true := decide_eq_true c22
                  clear c22
                  by_cases c23 : x14_2 = true
                  · subst c23
                    have H1 : (verditerlaw06_weighFinds.l0 k2 t582 t583 t587 true (wrap64 (x15_2 + 1)) a2_0 a2_1) = some r := by rw [if_pos rfl] at H; exact H
                    clear H
                    have H := H1
                    clear H1
                    have H' := Aside0.mk H
                    clear H
                    obtain ⟨Ao24, co24, eo24⟩ := Kd.R_slice HO_9.out
                    subst eo24
                    go_wp2
                    repeat (go_quiet (fail); try go_wp2)
                    go_roundg k2
                    case measure => have := HJ12.out; have := HK2.out; omega
                    case rel => exact ⟨(true), (wrap64 (x15_2 + 1)), (by first | rfl | (simp; done) | (simp [*]; done)), (by first | rfl | (simp; done) | (simp [*]; done)), H', ⟨by have := HJ12.out; have := HK2.out; omega⟩, ⟨by (with_reducible repeat (first | apply Kd.R_alloc | apply Kd.R_drewN | apply Kd.R_drew)); exact HO_9.out⟩, ⟨by (with_reducible repeat (first | refine blk_drewN ?_ _ | refine blk_drew ?_ | refine blk_alloc ?_ _)); exact BK574.out⟩, ⟨by repeat (first | (with_reducible first | exact HB.out | apply below_alloc | apply pw_below_drewN | apply below_drew1 | refine below_set ?_ GE574.out) | exact HB.out)⟩⟩
                  · replace c23 := Bool.eq_false_iff.mpr c23
                    subst c23
                    have H1 : (if 0 ≤ x15_2 then (verditerlaw06_weighFinds.l0 k2 t582 t583 t587 (((rd_T35 t582 x15_2).f0) == a2_0 && (((rd_T35 t582 x15_2).f1) == a2_1)) (wrap64 (x15_2 + 1)) a2_0 a2_1) else (none)) = some r := by rw [if_neg (show ¬ (false = true) by decide)] at H; exact H
                    clear H
                    have H := H1
                    clear H1
                    by_cases c25 : 0 ≤ x15_2
                    · rw [if_pos c25] at H
                      have c25b0 : decide (0 ≤ x15_2) = true := decide_eq_true c25
                      clear c25
                      have H' := Aside0.mk H
                      clear H
                      obtain ⟨Ao26, co26, eo26⟩ := Kd.R_slice HO_9.out
                      subst eo26
                      have p589 : 0 ≤ (x15_2 : Int) := of_decide_eq_true (by first | (with_reducible assumption) | assumption)
                      have q589 : x15_2 < (t582.length : Int) := of_decide_eq_true (by first | (with_reducible assumption) | assumption)
                      obtain ⟨ad589, e589, hx589_0, hx589_1⟩ := at_T35 (Kd.R_reads' HO_9.out).2.2 x15_2 p589 q589
                      cases e589
                      replace p589 := eq_true p589
                      replace q589 := eq_true q589
                      have hcz27_0 : wr.cell? ⟨gb574, 0, none⟩ = some (.int .i64 a2_0) := (blk_cell BK574.out 0).trans rfl
                      have hcz27_1 : wr.cell? ⟨gb574, 1, none⟩ = some (.int .i64 a2_1) := (blk_cell BK574.out 1).trans rfl
                      have hfz27_0 := blk_frozen BK574.out 0
                      have hfz27_1 := blk_frozen BK574.out 1
                      go_wp2
                      repeat (go_quiet (fail); try go_wp2)
                      go_roundg k2
                      case measure => have := HJ12.out; have := HK2.out; omega
                      case rel => exact ⟨((((rd_T35 t582 x15_2).f0) == a2_0 && (((rd_T35 t582 x15_2).f1) == a2_1))), (wrap64 (x15_2 + 1)), (by first | rfl | (simp; done) | (simp [*]; done)), (by first | rfl | (simp; done) | (simp [*]; done)), H', ⟨by have := HJ12.out; have := HK2.out; omega⟩, ⟨by (with_reducible repeat (first | apply Kd.R_alloc | apply Kd.R_drewN | apply Kd.R_drew)); exact HO_9.out⟩, ⟨by (with_reducible repeat (first | refine blk_drewN ?_ _ | refine blk_drew ?_ | refine blk_alloc ?_ _)); exact BK574.out⟩, ⟨by repeat (first | (with_reducible first | exact HB.out | apply below_alloc | apply pw_below_drewN | apply below_drew1 | refine below_set ?_ GE574.out) | exact HB.out)⟩⟩
                    · rw [if_neg c25] at H
                      exact absurd H (by simp)
                · rw [if_neg c22] at H
                  have c22b0 : decide (x15_2 < (t582.length : Int)) = false := decide_eq_false c22
                  clear c22
                  by_cases c28 : x14_2 = true
                  · subst c28
                    have H1 : (if t587 = true then (if (t582.length : Int) = 1 then (if t583 = true then (some false) else ((verditerlaw06_known.f k2).bind fun t590 => (some t590))) else (some false)) else ((verditerlaw06_known.f k2).bind fun t591 => (some t591))) = some r := by rw [if_pos rfl] at H; exact H
                    clear H
                    have H := H1
                    clear H1
                    by_cases c29 : t587 = true
                    · subst c29
                      have H1 : (if (t582.length : Int) = 1 then (if t583 = true then (some false) else ((verditerlaw06_known.f k2).bind fun t590 => (some t590))) else (some false)) = some r := by rw [if_pos rfl] at H; exact H
                      clear H
                      have H := H1
                      clear H1
                      by_cases c30 : (t582.length : Int) = 1
                      · rw [if_pos c30] at H
                        have c30b0 : ((t582.length : Int) == 1) = true := beq_iff_eq.mpr c30
                        have c30b1 : ((t582.length : Int) != 1) = false := bne_eq_false_iff_eq.mpr c30
                        clear c30
                        by_cases c31 : t583 = true
                        · subst c31
                          have H1 : (some false) = some r := by rw [if_pos rfl] at H; exact H
                          clear H
                          have H := H1
                          clear H1
                          obtain rfl := Option.some.inj H
                          obtain ⟨Ao32, co32, eo32⟩ := Kd.R_slice HO_9.out
                          subst eo32
                          go_wp2
                          repeat (go_quiet (fail); try go_wp2)
                          go_ret
                          exact ⟨by first | rfl | (simp [errW_none, errW_some] <;> rfl) | (simp [*, errW_none, errW_some] <;> rfl), by repeat (first | (with_reducible first | exact HB.out | apply below_alloc | apply pw_below_drewN | apply below_drew1 | refine below_set ?_ GE574.out) | exact HB.out)⟩
                        · replace c31 := Bool.eq_false_iff.mpr c31
                          subst c31
                          have H1 : ((verditerlaw06_known.f k2).bind fun t590 => (some t590)) = some r := by rw [if_neg (show ¬ (false = true) by decide)] at H; exact H
                          clear H
                          have H := H1
                          clear H1
                          replace H := Option.bind_eq_some_iff.mp H
                          obtain ⟨t590, A330, H⟩ := H
                          replace H : (some t590) = some r := H
                          have A33 := Aside0.mk A330
                          clear A330
                          obtain rfl := Option.some.inj H
                          obtain ⟨Ao34, co34, eo34⟩ := Kd.R_slice HO_9.out
                          subst eo34
                          go_wp2_with (first | (go_at_call 25; (with_reducible refine (verditerlaw06_known.calls k2  t590 _ A33.out).mono ?_); rintro e w35 ⟨rfl, hb⟩; have n0_ := Aside0.mk (Kd.R_below (by (with_reducible repeat (first | apply Kd.R_alloc | apply Kd.R_drewN | apply Kd.R_drew)); exact HO_9.out) hb); have n1_ := Aside0.mk (blk_below (g := gb574) (o := .cells #[.int .i64 a2_0, .int .i64 a2_1] 35 (0, 0)) (by (with_reducible repeat (first | refine blk_drewN ?_ _ | refine blk_drew ?_ | refine blk_alloc ?_ _)); exact BK574.out) hb); have n2_ := Aside0.mk (below_step (by repeat (first | (with_reducible first | exact HB.out | apply below_alloc | apply pw_below_drewN | apply below_drew1 | refine below_set ?_ GE574.out) | exact HB.out)) hb); clear HO_9; clear BK574; clear HB; have HO_9 := n0_; have BK574 := n1_; have HB := n2_; clear n0_ n1_ n2_; (try clear hb); (try clear hb2); (try clear hk); (try clear hi)))
                          repeat (go_quiet (first | (go_at_call 25; (with_reducible refine (verditerlaw06_known.calls k2  t590 _ A33.out).mono ?_); rintro e w35 ⟨rfl, hb⟩; have n0_ := Aside0.mk (Kd.R_below (by (with_reducible repeat (first | apply Kd.R_alloc | apply Kd.R_drewN | apply Kd.R_drew)); exact HO_9.out) hb); have n1_ := Aside0.mk (blk_below (g := gb574) (o := .cells #[.int .i64 a2_0, .int .i64 a2_1] 35 (0, 0)) (by (with_reducible repeat (first | refine blk_drewN ?_ _ | refine blk_drew ?_ | refine blk_alloc ?_ _)); exact BK574.out) hb); have n2_ := Aside0.mk (below_step (by repeat (first | (with_reducible first | exact HB.out | apply below_alloc | apply pw_below_drewN | apply below_drew1 | refine below_set ?_ GE574.out) | exact HB.out)) hb); clear HO_9; clear BK574; clear HB; have HO_9 := n0_; have BK574 := n1_; have HB := n2_; clear n0_ n1_ n2_; (try clear hb); (try clear hb2); (try clear hk); (try clear hi))); try go_wp2_with (first | (go_at_call 25; (with_reducible refine (verditerlaw06_known.calls k2  t590 _ A33.out).mono ?_); rintro e w35 ⟨rfl, hb⟩; have n0_ := Aside0.mk (Kd.R_below (by (with_reducible repeat (first | apply Kd.R_alloc | apply Kd.R_drewN | apply Kd.R_drew)); exact HO_9.out) hb); have n1_ := Aside0.mk (blk_below (g := gb574) (o := .cells #[.int .i64 a2_0, .int .i64 a2_1] 35 (0, 0)) (by (with_reducible repeat (first | refine blk_drewN ?_ _ | refine blk_drew ?_ | refine blk_alloc ?_ _)); exact BK574.out) hb); have n2_ := Aside0.mk (below_step (by repeat (first | (with_reducible first | exact HB.out | apply below_alloc | apply pw_below_drewN | apply below_drew1 | refine below_set ?_ GE574.out) | exact HB.out)) hb); clear HO_9; clear BK574; clear HB; have HO_9 := n0_; have BK574 := n1_; have HB := n2_; clear n0_ n1_ n2_; (try clear hb); (try clear hb2); (try clear hk); (try clear hi))))
                          go_ret
                          exact ⟨by first | rfl | (simp [errW_none, errW_some] <;> rfl) | (simp [*, errW_none, errW_some] <;> rfl), by repeat (first | (with_reducible first | exact HB.out | apply below_alloc | apply pw_below_drewN | apply below_drew1 | refine below_set ?_ GE574.out) | exact HB.out)⟩
                      · rw [if_neg c30] at H
                        have c30b0 : ((t582.length : Int) == 1) = false := beq_eq_false_iff_ne.mpr c30
                        have c30b1 : ((t582.length : Int) != 1) = true := bne_iff_ne.mpr c30
                        obtain rfl := Option.some.inj H
                        obtain ⟨Ao36, co36, eo36⟩ := Kd.R_slice HO_9.out
                        subst eo36
                        go_wp2
                        repeat (go_quiet (fail); try go_wp2)
                        go_ret
                        exact ⟨by first | rfl | (simp [errW_none, errW_some] <;> rfl) | (simp [*, errW_none, errW_some] <;> rfl), by repeat (first | (with_reducible first | exact HB.out | apply below_alloc | apply pw_below_drewN | apply below_drew1 | refine below_set ?_ GE574.out) | exact HB.out)⟩
                    · replace c29 := Bool.eq_false_iff.mpr c29
                      subst c29
                      have H1 : ((verditerlaw06_known.f k2).bind fun t591 => (some t591)) = some r := by rw [if_neg (show ¬ (false = true) by decide)] at H; exact H
                      clear H
                      have H := H1
                      clear H1
                      replace H := Option.bind_eq_some_iff.mp H
                      obtain ⟨t591, A370, H⟩ := H
                      replace H : (some t591) = some r := H
                      have A37 := Aside0.mk A370
                      clear A370
                      obtain rfl := Option.some.inj H
                      obtain ⟨Ao38, co38, eo38⟩ := Kd.R_slice HO_9.out
                      subst eo38
                      go_wp2_with (first | (go_at_call 25; (with_reducible refine (verditerlaw06_known.calls k2  t591 _ A37.out).mono ?_); rintro e w39 ⟨rfl, hb⟩; have n0_ := Aside0.mk (Kd.R_below (by (with_reducible repeat (first | apply Kd.R_alloc | apply Kd.R_drewN | apply Kd.R_drew)); exact HO_9.out) hb); have n1_ := Aside0.mk (blk_below (g := gb574) (o := .cells #[.int .i64 a2_0, .int .i64 a2_1] 35 (0, 0)) (by (with_reducible repeat (first | refine blk_drewN ?_ _ | refine blk_drew ?_ | refine blk_alloc ?_ _)); exact BK574.out) hb); have n2_ := Aside0.mk (below_step (by repeat (first | (with_reducible first | exact HB.out | apply below_alloc | apply pw_below_drewN | apply below_drew1 | refine below_set ?_ GE574.out) | exact HB.out)) hb); clear HO_9; clear BK574; clear HB; have HO_9 := n0_; have BK574 := n1_; have HB := n2_; clear n0_ n1_ n2_; (try clear hb); (try clear hb2); (try clear hk); (try clear hi)))
                      repeat (go_quiet (first | (go_at_call 25; (with_reducible refine (verditerlaw06_known.calls k2  t591 _ A37.out).mono ?_); rintro e w39 ⟨rfl, hb⟩; have n0_ := Aside0.mk (Kd.R_below (by (with_reducible repeat (first | apply Kd.R_alloc | apply Kd.R_drewN | apply Kd.R_drew)); exact HO_9.out) hb); have n1_ := Aside0.mk (blk_below (g := gb574) (o := .cells #[.int .i64 a2_0, .int .i64 a2_1] 35 (0, 0)) (by (with_reducible repeat (first | refine blk_drewN ?_ _ | refine blk_drew ?_ | refine blk_alloc ?_ _)); exact BK574.out) hb); have n2_ := Aside0.mk (below_step (by repeat (first | (with_reducible first | exact HB.out | apply below_alloc | apply pw_below_drewN | apply below_drew1 | refine below_set ?_ GE574.out) | exact HB.out)) hb); clear HO_9; clear BK574; clear HB; have HO_9 := n0_; have BK574 := n1_; have HB := n2_; clear n0_ n1_ n2_; (try clear hb); (try clear hb2); (try clear hk); (try clear hi))); try go_wp2_with (first | (go_at_call 25; (with_reducible refine (verditerlaw06_known.calls k2  t591 _ A37.out).mono ?_); rintro e w39 ⟨rfl, hb⟩; have n0_ := Aside0.mk (Kd.R_below (by (with_reducible repeat (first | apply Kd.R_alloc | apply Kd.R_drewN | apply Kd.R_drew)); exact HO_9.out) hb); have n1_ := Aside0.mk (blk_below (g := gb574) (o := .cells #[.int .i64 a2_0, .int .i64 a2_1] 35 (0, 0)) (by (with_reducible repeat (first | refine blk_drewN ?_ _ | refine blk_drew ?_ | refine blk_alloc ?_ _)); exact BK574.out) hb); have n2_ := Aside0.mk (below_step (by repeat (first | (with_reducible first | exact HB.out | apply below_alloc | apply pw_below_drewN | apply below_drew1 | refine below_set ?_ GE574.out) | exact HB.out)) hb); clear HO_9; clear BK574; clear HB; have HO_9 := n0_; have BK574 := n1_; have HB := n2_; clear n0_ n1_ n2_; (try clear hb); (try clear hb2); (try clear hk); (try clear hi))))
                      go_ret
                      exact ⟨by first | rfl | (simp [errW_none, errW_some] <;> rfl) | (simp [*, errW_none, errW_some] <;> rfl), by repeat (first | (with_reducible first | exact HB.out | apply below_alloc | apply pw_below_drewN | apply below_drew1 | refine below_set ?_ GE574.out) | exact HB.out)⟩
                  · replace c28 := Bool.eq_false_iff.mpr c28
                    subst c28
                    have H1 : (some false) = some r := by rw [if_neg (show ¬ (false = true) by decide)] at H; exact H
                    clear H
                    have H := H1
                    clear H1
                    obtain rfl := Option.some.inj H
                    obtain ⟨Ao40, co40, eo40⟩ := Kd.R_slice HO_9.out
                    subst eo40
                    go_wp2
                    repeat (go_quiet (fail); try go_wp2)
                    go_ret
                    exact ⟨by first | rfl | (simp [errW_none, errW_some] <;> rfl) | (simp [*, errW_none, errW_some] <;> rfl), by repeat (first | (with_reducible first | exact HB.out | apply below_alloc | apply pw_below_drewN | apply below_drew1 | refine below_set ?_ GE574.out) | exact HB.out)⟩
    · rw [if_neg c10] at H
      have c10b0 : (t580 == 0) = false := beq_eq_false_iff_ne.mpr c10
      have c10b1 : (t580 != 0) = true := bne_iff_ne.mpr c10
      replace H := Option.bind_eq_some_iff.mp H
      obtain ⟨t581, A410, H⟩ := H
      replace H : (some t581) = some r := H
      have A41 := Aside0.mk A410
      clear A410
      obtain rfl := Option.some.inj H
      go_enter Try.func40, Try.ntmps40
      go_wp2_with (first | ((with_reducible refine gate_dst (N := 5) rfl ?_); (try (refine gate_guard (by rfl) ?_; dsimp only)); refine box_event ?hg (N := 5) ?hd (cs := #[.int .i64 a2_0, .int .i64 a2_1]) (t := 35) ?hr ?_; (case hd => rfl); (case hg => rfl); (case hr => first | (go_simp; done) | (go_simp; rfl)); intro gb574 hg w42 hbox hb; have n0_ := Aside0.mk (below_step (by repeat (first | (with_reducible first | exact HB.out | apply below_alloc | apply pw_below_drewN | apply below_drew1) | exact HB.out)) hb); have n1_ := Aside0.mk (hbox); have n2_ := Aside0.mk ((by rw [hg]; exact (below_size (by repeat (first | (with_reducible first | exact HB.out | apply below_alloc | apply pw_below_drewN | apply below_drew1) | exact HB.out))) : w.heap.size ≤ gb574)); have n3_ := Aside0.mk ((by rw [hg]; exact (below_size (by repeat (first | (with_reducible first | exact HB.out | apply below_alloc | apply pw_below_drewN | apply below_drew1) | exact HB.out))) : w.heap.size ≤ gb574)); clear HB; have HB := n0_; have BK574 := n1_; have GW574 := n2_; have GE574 := n3_; clear n0_ n1_ n2_ n3_; clear hb hbox hg) | (go_at_call 43; (with_reducible refine (verditerlaw06_Long.calls k _ _ l1 false _ ?side1 ?side2 A4.out).mono ?_); (case side1 => repeat (first | exact (Kd.C_below HR1.out HB.out) | (with_reducible refine Kd.C_alloc ?_ _) | (with_reducible refine Kd.C_drewN ?_ _) | (with_reducible refine Kd.C_drew ?_))); (case side2 => exact HC1.out); rintro e w' ⟨rfl, ⟨nd, rfl⟩⟩; (try first | exact ⟨rfl, _, World.drewN_drewN _ _ _⟩ | exact ⟨rfl, _, Eq.trans (World.drewN_drewN _ _ _) (congrArg (World.drewN _) (Nat.add_assoc _ _ _))⟩); have hcz43_0 : w42.cell? ⟨gb574, 0, none⟩ = some (.int .i64 a2_0) := (blk_cell BK574.out 0).trans rfl; have hcz43_1 : w42.cell? ⟨gb574, 1, none⟩ = some (.int .i64 a2_1) := (blk_cell BK574.out 1).trans rfl; have hfz43_0 := blk_frozen BK574.out 0; have hfz43_1 := blk_frozen BK574.out 1) | (go_at_call 57; (with_reducible refine (weigh_Answers.calls a0 _ _ l1 a2_0 a2_1 t577 t580 _ ?side1 ?side2 A9.out).mono ?_); (case side1 => repeat (first | exact (Kd.C_below HR1.out (by repeat (first | (with_reducible first | exact HB.out | apply below_alloc | apply pw_below_drewN | apply below_drew1 | refine below_set ?_ GE574.out) | exact HB.out))) | (with_reducible refine Kd.C_alloc ?_ _) | (with_reducible refine Kd.C_drewN ?_ _) | (with_reducible refine Kd.C_drew ?_))); (case side2 => exact HC1.out); rintro e w44 ⟨v578, rfl, ho0, hb⟩; have n0_ := Aside0.mk (Kd.R_lower ho0 (below_size (by repeat (first | (with_reducible first | exact HB.out | apply below_alloc | apply pw_below_drewN | apply below_drew1 | refine below_set ?_ GE574.out) | exact HB.out)))); have n1_ := Aside0.mk (blk_below (g := gb574) (o := .cells #[.int .i64 a2_0, .int .i64 a2_1] 35 (0, 0)) (by (with_reducible repeat (first | refine blk_drewN ?_ _ | refine blk_drew ?_ | refine blk_alloc ?_ _)); exact BK574.out) hb); have n2_ := Aside0.mk (below_step (by repeat (first | (with_reducible first | exact HB.out | apply below_alloc | apply pw_below_drewN | apply below_drew1 | refine below_set ?_ GE574.out) | exact HB.out)) hb); clear BK574; clear HB; have HO579 := n0_; have BK574 := n1_; have HB := n2_; clear n0_ n1_ n2_; (try clear hb); (try clear hb2); (try clear hk); (try clear hi); (try clear ho0)) | (go_at_call 25; (with_reducible refine (verditerlaw06_known.calls k  t581 _ A41.out).mono ?_); rintro e w45 ⟨rfl, hb⟩; have n0_ := Aside0.mk (Kd.R_below (by (with_reducible repeat (first | apply Kd.R_alloc | apply Kd.R_drewN | apply Kd.R_drew)); exact HO579.out) hb); have n1_ := Aside0.mk (blk_below (g := gb574) (o := .cells #[.int .i64 a2_0, .int .i64 a2_1] 35 (0, 0)) (by (with_reducible repeat (first | refine blk_drewN ?_ _ | refine blk_drew ?_ | refine blk_alloc ?_ _)); exact BK574.out) hb); have n2_ := Aside0.mk (below_step (by repeat (first | (with_reducible first | exact HB.out | apply below_alloc | apply pw_below_drewN | apply below_drew1 | refine below_set ?_ GE574.out) | exact HB.out)) hb); clear HO579; clear BK574; clear HB; have HO579 := n0_; have BK574 := n1_; have HB := n2_; clear n0_ n1_ n2_; (try clear hb); (try clear hb2); (try clear hk); (try clear hi)))
      repeat (go_quiet (first | ((with_reducible refine gate_dst (N := 5) rfl ?_); (try (refine gate_guard (by rfl) ?_; dsimp only)); refine box_event ?hg (N := 5) ?hd (cs := #[.int .i64 a2_0, .int .i64 a2_1]) (t := 35) ?hr ?_; (case hd => rfl); (case hg => rfl); (case hr => first | (go_simp; done) | (go_simp; rfl)); intro gb574 hg w42 hbox hb; have n0_ := Aside0.mk (below_step (by repeat (first | (with_reducible first | exact HB.out | apply below_alloc | apply pw_below_drewN | apply below_drew1) | exact HB.out)) hb); have n1_ := Aside0.mk (hbox); have n2_ := Aside0.mk ((by rw [hg]; exact (below_size (by repeat (first | (with_reducible first | exact HB.out | apply below_alloc | apply pw_below_drewN | apply below_drew1) | exact HB.out))) : w.heap.size ≤ gb574)); have n3_ := Aside0.mk ((by rw [hg]; exact (below_size (by repeat (first | (with_reducible first | exact HB.out | apply below_alloc | apply pw_below_drewN | apply below_drew1) | exact HB.out))) : w.heap.size ≤ gb574)); clear HB; have HB := n0_; have BK574 := n1_; have GW574 := n2_; have GE574 := n3_; clear n0_ n1_ n2_ n3_; clear hb hbox hg) | (go_at_call 43; (with_reducible refine (verditerlaw06_Long.calls k _ _ l1 false _ ?side1 ?side2 A4.out).mono ?_); (case side1 => repeat (first | exact (Kd.C_below HR1.out HB.out) | (with_reducible refine Kd.C_alloc ?_ _) | (with_reducible refine Kd.C_drewN ?_ _) | (with_reducible refine Kd.C_drew ?_))); (case side2 => exact HC1.out); rintro e w' ⟨rfl, ⟨nd, rfl⟩⟩; (try first | exact ⟨rfl, _, World.drewN_drewN _ _ _⟩ | exact ⟨rfl, _, Eq.trans (World.drewN_drewN _ _ _) (congrArg (World.drewN _) (Nat.add_assoc _ _ _))⟩); have hcz43_0 : w42.cell? ⟨gb574, 0, none⟩ = some (.int .i64 a2_0) := (blk_cell BK574.out 0).trans rfl; have hcz43_1 : w42.cell? ⟨gb574, 1, none⟩ = some (.int .i64 a2_1) := (blk_cell BK574.out 1).trans rfl; have hfz43_0 := blk_frozen BK574.out 0; have hfz43_1 := blk_frozen BK574.out 1) | (go_at_call 57; (with_reducible refine (weigh_Answers.calls a0 _ _ l1 a2_0 a2_1 t577 t580 _ ?side1 ?side2 A9.out).mono ?_); (case side1 => repeat (first | exact (Kd.C_below HR1.out (by repeat (first | (with_reducible first | exact HB.out | apply below_alloc | apply pw_below_drewN | apply below_drew1 | refine below_set ?_ GE574.out) | exact HB.out))) | (with_reducible refine Kd.C_alloc ?_ _) | (with_reducible refine Kd.C_drewN ?_ _) | (with_reducible refine Kd.C_drew ?_))); (case side2 => exact HC1.out); rintro e w44 ⟨v578, rfl, ho0, hb⟩; have n0_ := Aside0.mk (Kd.R_lower ho0 (below_size (by repeat (first | (with_reducible first | exact HB.out | apply below_alloc | apply pw_below_drewN | apply below_drew1 | refine below_set ?_ GE574.out) | exact HB.out)))); have n1_ := Aside0.mk (blk_below (g := gb574) (o := .cells #[.int .i64 a2_0, .int .i64 a2_1] 35 (0, 0)) (by (with_reducible repeat (first | refine blk_drewN ?_ _ | refine blk_drew ?_ | refine blk_alloc ?_ _)); exact BK574.out) hb); have n2_ := Aside0.mk (below_step (by repeat (first | (with_reducible first | exact HB.out | apply below_alloc | apply pw_below_drewN | apply below_drew1 | refine below_set ?_ GE574.out) | exact HB.out)) hb); clear BK574; clear HB; have HO579 := n0_; have BK574 := n1_; have HB := n2_; clear n0_ n1_ n2_; (try clear hb); (try clear hb2); (try clear hk); (try clear hi); (try clear ho0)) | (go_at_call 25; (with_reducible refine (verditerlaw06_known.calls k  t581 _ A41.out).mono ?_); rintro e w45 ⟨rfl, hb⟩; have n0_ := Aside0.mk (Kd.R_below (by (with_reducible repeat (first | apply Kd.R_alloc | apply Kd.R_drewN | apply Kd.R_drew)); exact HO579.out) hb); have n1_ := Aside0.mk (blk_below (g := gb574) (o := .cells #[.int .i64 a2_0, .int .i64 a2_1] 35 (0, 0)) (by (with_reducible repeat (first | refine blk_drewN ?_ _ | refine blk_drew ?_ | refine blk_alloc ?_ _)); exact BK574.out) hb); have n2_ := Aside0.mk (below_step (by repeat (first | (with_reducible first | exact HB.out | apply below_alloc | apply pw_below_drewN | apply below_drew1 | refine below_set ?_ GE574.out) | exact HB.out)) hb); clear HO579; clear BK574; clear HB; have HO579 := n0_; have BK574 := n1_; have HB := n2_; clear n0_ n1_ n2_; (try clear hb); (try clear hb2); (try clear hk); (try clear hi))); try go_wp2_with (first | ((with_reducible refine gate_dst (N := 5) rfl ?_); (try (refine gate_guard (by rfl) ?_; dsimp only)); refine box_event ?hg (N := 5) ?hd (cs := #[.int .i64 a2_0, .int .i64 a2_1]) (t := 35) ?hr ?_; (case hd => rfl); (case hg => rfl); (case hr => first | (go_simp; done) | (go_simp; rfl)); intro gb574 hg w42 hbox hb; have n0_ := Aside0.mk (below_step (by repeat (first | (with_reducible first | exact HB.out | apply below_alloc | apply pw_below_drewN | apply below_drew1) | exact HB.out)) hb); have n1_ := Aside0.mk (hbox); have n2_ := Aside0.mk ((by rw [hg]; exact (below_size (by repeat (first | (with_reducible first | exact HB.out | apply below_alloc | apply pw_below_drewN | apply below_drew1) | exact HB.out))) : w.heap.size ≤ gb574)); have n3_ := Aside0.mk ((by rw [hg]; exact (below_size (by repeat (first | (with_reducible first | exact HB.out | apply below_alloc | apply pw_below_drewN | apply below_drew1) | exact HB.out))) : w.heap.size ≤ gb574)); clear HB; have HB := n0_; have BK574 := n1_; have GW574 := n2_; have GE574 := n3_; clear n0_ n1_ n2_ n3_; clear hb hbox hg) | (go_at_call 43; (with_reducible refine (verditerlaw06_Long.calls k _ _ l1 false _ ?side1 ?side2 A4.out).mono ?_); (case side1 => repeat (first | exact (Kd.C_below HR1.out HB.out) | (with_reducible refine Kd.C_alloc ?_ _) | (with_reducible refine Kd.C_drewN ?_ _) | (with_reducible refine Kd.C_drew ?_))); (case side2 => exact HC1.out); rintro e w' ⟨rfl, ⟨nd, rfl⟩⟩; (try first | exact ⟨rfl, _, World.drewN_drewN _ _ _⟩ | exact ⟨rfl, _, Eq.trans (World.drewN_drewN _ _ _) (congrArg (World.drewN _) (Nat.add_assoc _ _ _))⟩); have hcz43_0 : w42.cell? ⟨gb574, 0, none⟩ = some (.int .i64 a2_0) := (blk_cell BK574.out 0).trans rfl; have hcz43_1 : w42.cell? ⟨gb574, 1, none⟩ = some (.int .i64 a2_1) := (blk_cell BK574.out 1).trans rfl; have hfz43_0 := blk_frozen BK574.out 0; have hfz43_1 := blk_frozen BK574.out 1) | (go_at_call 57; (with_reducible refine (weigh_Answers.calls a0 _ _ l1 a2_0 a2_1 t577 t580 _ ?side1 ?side2 A9.out).mono ?_); (case side1 => repeat (first | exact (Kd.C_below HR1.out (by repeat (first | (with_reducible first | exact HB.out | apply below_alloc | apply pw_below_drewN | apply below_drew1 | refine below_set ?_ GE574.out) | exact HB.out))) | (with_reducible refine Kd.C_alloc ?_ _) | (with_reducible refine Kd.C_drewN ?_ _) | (with_reducible refine Kd.C_drew ?_))); (case side2 => exact HC1.out); rintro e w44 ⟨v578, rfl, ho0, hb⟩; have n0_ := Aside0.mk (Kd.R_lower ho0 (below_size (by repeat (first | (with_reducible first | exact HB.out | apply below_alloc | apply pw_below_drewN | apply below_drew1 | refine below_set ?_ GE574.out) | exact HB.out)))); have n1_ := Aside0.mk (blk_below (g := gb574) (o := .cells #[.int .i64 a2_0, .int .i64 a2_1] 35 (0, 0)) (by (with_reducible repeat (first | refine blk_drewN ?_ _ | refine blk_drew ?_ | refine blk_alloc ?_ _)); exact BK574.out) hb); have n2_ := Aside0.mk (below_step (by repeat (first | (with_reducible first | exact HB.out | apply below_alloc | apply pw_below_drewN | apply below_drew1 | refine below_set ?_ GE574.out) | exact HB.out)) hb); clear BK574; clear HB; have HO579 := n0_; have BK574 := n1_; have HB := n2_; clear n0_ n1_ n2_; (try clear hb); (try clear hb2); (try clear hk); (try clear hi); (try clear ho0)) | (go_at_call 25; (with_reducible refine (verditerlaw06_known.calls k  t581 _ A41.out).mono ?_); rintro e w45 ⟨rfl, hb⟩; have n0_ := Aside0.mk (Kd.R_below (by (with_reducible repeat (first | apply Kd.R_alloc | apply Kd.R_drewN | apply Kd.R_drew)); exact HO579.out) hb); have n1_ := Aside0.mk (blk_below (g := gb574) (o := .cells #[.int .i64 a2_0, .int .i64 a2_1] 35 (0, 0)) (by (with_reducible repeat (first | refine blk_drewN ?_ _ | refine blk_drew ?_ | refine blk_alloc ?_ _)); exact BK574.out) hb); have n2_ := Aside0.mk (below_step (by repeat (first | (with_reducible first | exact HB.out | apply below_alloc | apply pw_below_drewN | apply below_drew1 | refine below_set ?_ GE574.out) | exact HB.out)) hb); clear HO579; clear BK574; clear HB; have HO579 := n0_; have BK574 := n1_; have HB := n2_; clear n0_ n1_ n2_; (try clear hb); (try clear hb2); (try clear hk); (try clear hi))))
      go_ret
      exact ⟨by first | rfl | (simp [errW_none, errW_some] <;> rfl) | (simp [*, errW_none, errW_some] <;> rfl), by repeat (first | (with_reducible first | exact HB.out | apply below_alloc | apply pw_below_drewN | apply below_drew1 | refine below_set ?_ GE574.out) | exact HB.out)⟩

end Go.Proofs.Ytdbeochifofdoaa.X
end

section
/-! The law WeighFinds: own := KeepWeighings(plan); what it states; KeptWeighings(own, plan). -/
namespace Go.Proofs.Ytdbeochifofdoaa.X
open Go.RowKit Go.Proofs.YtdbeochifofdoaaW.PrintWords Go.Proofs.YtdbeochifofdoaaW.PrintLast Go.Proofs.YtdbeochifofdoaaW.PrintMore
set_option linter.unusedVariables false
set_option linter.unusedSimpArgs false

set_option maxHeartbeats 4000000 in
set_option maxRecDepth 100000 in
theorem weighFinds_calls (k : Nat) (a0 : Int) (A : Option Addr) (l : List S53) (ys : List S53) (b0 b1 : Int) (w : World) (hl : Kd.C k53 w A l.length l) (hc : l.length ≤ ys.length) (hF : FullW w A ys) (hn : ys.length ≤ 2932031007402)
    (hs : ∀ y, y ∈ ys → y.f0.length ≤ 17592186044416 ∧ y.f1.length ≤ 17592186044416) (h : verditerlaw06_weighFinds.f k a0 l b0 b1 = some true) :
    Calls Try.prog 14 #[.int .i64 a0, .slice A l.length ys.length, .agg #[.int .i64 b0, .int .i64 b1]] w fun e w' => e = .returned (.bool true) ∧ Below w.heap.size w w' := by
  have HL := Aside0.mk hl
  have HF := Aside0.mk hF
  have HS := Aside0.mk hs
  have H := Aside0.mk h
  clear hl hF hs h
  go_enter Try.func14, Try.ntmps14
  go_wp2_with fail
  have HB0 := Aside0.mk (below_alloc (Below.refl _ w) (.cells #[.int .i64 b0, .int .i64 b1] 35))
  refine (keepW_calls A l.length ys _ (HF.out.below HB0.out) hc hn HS.out).mono ?_
  rintro e w1 ⟨v, rfl, hN, hB1⟩
  obtain ⟨Ao, co, rfl⟩ := Kd.N_slice hN
  have HO := Aside0.mk (Kd.N_reads' hN).2.2
  have HB1 := Aside0.mk (HB0.out.trans (hB1.mono HB0.out.size))
  have hx0 : w1.cell? ⟨w.heap.size, 0, none⟩ = some (.int .i64 b0) := (hB1.cell (p := ⟨w.heap.size, 0, none⟩) (by simp)).trans (blk_cell (blk_new w _) 0)
  have hx1 : w1.cell? ⟨w.heap.size, 1, none⟩ = some (.int .i64 b1) := (hB1.cell (p := ⟨w.heap.size, 1, none⟩) (by simp)).trans (blk_cell (blk_new w _) 1)
  have hsz : w.heap.size < w1.heap.size := by have := hB1.size; simp at this; omega
  clear hN hB1
  go_wp2_with fail
  refine (verditerlaw06_weighFinds.calls k a0 A ys.length l b0 b1 true _ (Kd.C_below HL.out HB1.out) hc H.out).mono ?_
  rintro e w2 ⟨rfl, hB2⟩
  have HB2 := Aside0.mk hB2
  have HB := Aside0.mk (HB1.out.trans (hB2.mono HB1.out.size))
  clear hB2
  go_wp2_with fail
  refine (keptW_calls Ao co A l.length ys _ (Kd.C_below HO.out HB2.out) (HF.out.below HB.out) hc).mono ?_
  rintro e w3 ⟨rfl, hB3⟩
  have HB3 := Aside0.mk (HB.out.trans (hB3.mono HB.out.size))
  clear hB3
  go_wp2
  go_ret
  exact ⟨rfl, HB3.out⟩
end Go.Proofs.Ytdbeochifofdoaa.X
end

section
/-! A plan that comes in: what its cells hold, up to its length and up to its capacity. -/
namespace Go.Proofs.Ytdbeochifofdoaa.X
open Go.ChangeShapes Go.WideShapes Go.RowKit Go.Proofs.YtdbeochifofdoaaW.PrintWords Go.Proofs.YtdbeochifofdoaaW.PrintLast Go.Proofs.YtdbeochifofdoaaW.PrintMore
set_option linter.unusedVariables false
set_option linter.unusedSimpArgs false

theorem list_of {α : Type} (d : α) (n : Nat) (P : Nat → α → Prop) (h : ∀ i, i < n → ∃ y, P i y) : ∃ ys : List α, ys.length = n ∧ ∀ i, i < n → P i (ys.getD i d) := by
  classical
  refine ⟨(List.range n).map (fun i => if h' : i < n then (h i h').choose else d), by simp, fun i hi => ?_⟩
  have : ((List.range n).map (fun i => if h' : i < n then (h i h').choose else d)).getD i d = (h i hi).choose := by simp [List.getD_eq_getElem?_getD, hi]
  rw [this]
  exact (h i hi).choose_spec
theorem C_take {α : Type} {d : Kd α} {w : World} {A : Option Addr} {n : Nat} {xs : List α} (h : d.C w A n xs) (m : Nat) (hm : m ≤ n) : d.C w A m (xs.take m) := by
  obtain ⟨h1, h2, h3⟩ := h
  refine ⟨by rw [List.length_take]; omega, by omega, fun h0 => ?_⟩
  obtain ⟨ad, e, hc⟩ := h3 (by omega)
  refine ⟨ad, e, fun j p hj => hc j p ?_⟩
  rw [List.getElem?_take] at hj
  split at hj
  · exact hj
  · cases hj
theorem weights_mem_all {H : Type} {P : Program} {t : TypeId} : ∀ {ds : List (DataW H)} {d : DataW H}, d ∈ ds → ∀ n ∈ d.weights P t, n ∈ DataW.weightsAll P t ds
  | d0 :: ds, d, hd, n, hn => by
    rw [DataW.weightsAll, List.mem_append]
    rcases List.mem_cons.1 hd with rfl | hd
    · exact .inl hn
    · exact .inr (weights_mem_all hd n hn)
  | [], _, hd, _, _ => by cases hd
theorem o_bytes3 : Try.prog.bytesOf 3 = 8 := by kernel_rfl
theorem o_bytes53 : Try.prog.bytesOf 53 = 48 := by kernel_rfl
theorem o_cells3 : Try.prog.cellsOf 3 = 1 := by kernel_rfl
theorem o_cells43 : Try.prog.cellsOf 43 = 1 := by kernel_rfl
theorem o_cells53 : Try.prog.cellsOf 53 = 2 := by kernel_rfl
/-- A list of numbers that comes in. -/
theorem open_intsK {H : Type} {enc : TypeId × Value → H} {W : World} {t : TypeId} {fuel : Nat} {cs : List Value} {x : DataW H × List MemPlace} (ht : Try.prog.underlying t = some (.slice 3))
    (h : DataW.trod enc Try.prog W 0 (fun _ => true) true fuel t cs = some x) (hsz : ∀ n ∈ x.1.weights Try.prog t, n ≤ reachBytes) :
    ∃ (A : Option Addr) (n : Nat) (ys : List Int), cs = [.slice A n ys.length] ∧ n ≤ ys.length ∧ ys.length ≤ 17592186044416 ∧ Kd.C (Kd.int .i64) W A ys.length ys ∧ ∀ z, z ∈ ys → (Lit.int .i64 z).wf = true := by
  rcases open_ints ht Try.underlying3 o_cells3 h with ⟨rfl, rfl⟩ | ⟨a, len, cap, zs, rfl, _, hl, hm, hz, rfl, hcell, hwz⟩
  · exact ⟨none, 0, [], rfl, Nat.le_refl _, by simp, ⟨rfl, by simp, fun h => absurd h (by simp)⟩, fun z hz => by cases hz⟩
  · rw [if_pos rfl] at hz
    subst hz
    have hw : zs.length * 8 ≤ reachBytes := by
      have := hsz ((lits (H := H) .i64 (zs.take len) ++ lits (H := H) .i64 (zs.drop len)).length * Try.prog.bytesOf 3) (by simp [DataW.weights, ht])
      rw [o_bytes3] at this
      simpa [lits, Nat.min_eq_left hl, Nat.add_sub_cancel' hl] using this
    unfold reachBytes at hw
    refine ⟨some a, len, zs, rfl, hl, by omega, Kd.C_of_reads (d := (0 : Int)) (h1 := fun _ => rfl) ⟨rfl, by omega, fun _ => ⟨a, rfl, fun j hj => hcell j hj⟩⟩, fun z hz => ?_⟩
    exact hwz z hz
/-- One weighing that comes in, and its lists' lengths. -/
structure PlanAt (W : World) (a : Addr) (z : S53 × Nat × Nat) : Prop where
  at_ : ∃ Al Ar, W.cell? a = some (.slice Al z.2.1 z.1.f0.length) ∧ W.cell? ⟨a.block, a.off + 1, none⟩ = some (.slice Ar z.2.2 z.1.f1.length) ∧ Kd.C (Kd.int .i64) W Al z.1.f0.length z.1.f0 ∧ Kd.C (Kd.int .i64) W Ar z.1.f1.length z.1.f1
  nl : z.2.1 ≤ z.1.f0.length
  nr : z.2.2 ≤ z.1.f1.length
  bl : z.1.f0.length ≤ 17592186044416
  br : z.1.f1.length ≤ 17592186044416
  il : ∀ x, x ∈ z.1.f0 → (Lit.int .i64 x).wf = true
  ir : ∀ x, x ∈ z.1.f1 → (Lit.int .i64 x).wf = true
theorem o_underlying43 : Try.prog.underlying 43 = some (.slice 3) := by kernel_rfl
theorem o_two_of {α : Type} {l : List α} (h : l.length = 2) : ∃ a b, l = [a, b] := by
  match l, h with
  | [a, b], _ => exact ⟨a, b, rfl⟩
theorem open_weighing {H : Type} {enc : TypeId × Value → H} {W : World} {a : Addr} {fuel : Nat} {cs : List Value} {x : DataW H × List MemPlace} (hc : W.cells? 0 a 2 = some cs)
    (h : DataW.trod enc Try.prog W 0 (fun _ => true) true fuel 53 cs = some x) (hsz : ∀ n ∈ x.1.weights Try.prog 53, n ≤ reachBytes) : ∃ z, PlanAt W a z := by
  obtain ⟨xs, n, _, rfl, hcs, hxs, hf⟩ := DataW.trod_struct Try.underlying53 h
  obtain ⟨_, h2, hcell⟩ := World.cells?_some hc
  obtain ⟨c0, c1, rfl⟩ : ∃ c0 c1, cs = [c0, c1] := o_two_of h2
  obtain ⟨x0, x1, rfl⟩ : ∃ c0 c1, xs = [c0, c1] := o_two_of hxs
  have e0 := hf 0 ⟨"Left", 43, 0, false, "", "", 0⟩ rfl
  have e1 := hf 1 ⟨"Right", 43, 1, false, "", "", 24⟩ rfl
  rw [o_cells43] at e0 e1
  simp only [DataW.weights, Try.underlying53, List.map_cons, List.map_nil, DataW.weightsEach, List.append_nil, List.mem_append] at hsz
  obtain ⟨A0, n0, ys0, q0, l0, b0, C0, i0⟩ := open_intsK o_underlying43 e0 (fun m hm => hsz m (.inl hm))
  obtain ⟨A1, n1, ys1, q1, l1, b1, C1, i1⟩ := open_intsK o_underlying43 e1 (fun m hm => hsz m (.inr hm))
  obtain rfl : c0 = .slice A0 n0 ys0.length := by simpa using q0
  obtain rfl : c1 = .slice A1 n1 ys1.length := by simpa using q1
  have k0 := hcell 0 (by omega)
  have k1 := hcell 1 (by omega)
  refine ⟨(⟨ys0, ys1⟩, n0, n1), ⟨A0, A1, ?_, ?_, C0, C1⟩, l0, l1, b0, b1, i0, i1⟩
  · simpa [Addr.add] using k0
  · simpa [Addr.add] using k1
theorem open_plan {H : Type} {enc : TypeId × Value → H} {W : World} {v : Value} {d : DataW H} {ps : List MemPlace} (h : DataW.Trod enc Try.prog W 0 (fun _ => true) true 22 v d ps) (hv : v.cells = #[v])
    (hsz : ∀ n ∈ d.weights Try.prog 22, n ≤ reachBytes) :
    ∃ (A : Option Addr) (l ys : List S53), v = .slice A l.length ys.length ∧ l.length ≤ ys.length ∧ ys.length ≤ 2932031007402 ∧ Kd.C k53 W A l.length l ∧ FullW W A ys ∧
      (∀ y, y ∈ ys → y.f0.length ≤ 17592186044416 ∧ y.f1.length ≤ 17592186044416) ∧ (∀ y, y ∈ l → (∀ x, x ∈ y.f0 → (Lit.int .i64 x).wf = true) ∧ (∀ x, x ∈ y.f1 → (Lit.int .i64 x).wf = true) ∧ y.f0.length ≤ 17592186044416 ∧ y.f1.length ≤ 17592186044416) := by
  obtain ⟨fuel, hf⟩ := h
  rw [hv] at hf
  rcases DataW.trod_slice Try.underlying22 hf with ⟨hcs, _⟩ | ⟨a, len, cap, elems, rest, n, _, hcs, hx, _, hl, hm, hlen, hel, hsp, _⟩
  · obtain rfl : v = .slice none 0 0 := by simpa using hcs
    exact ⟨none, [], [], rfl, Nat.le_refl _, by simp, ⟨rfl, by simp, fun h => absurd h (by simp)⟩, fun i hi => absurd hi (by simp), fun y hy => (by cases hy), fun y hy => (by cases hy)⟩
  obtain rfl : v = .slice (some a) len cap := by simpa using hcs
  obtain ⟨hrl, hre⟩ := hsp rfl
  obtain ⟨rfl, _⟩ := Prod.mk.inj hx
  simp only [DataW.weights, Try.underlying22, o_bytes53, List.mem_cons, List.mem_append] at hsz
  have hb : (len + (cap - len)) * 48 ≤ reachBytes := by
    have := hsz _ (.inl rfl)
    simpa [hlen, hrl] using this
  unfold reachBytes at hb
  rw [o_cells53] at hel hre
  have each : ∀ i, i < cap → ∃ z, PlanAt W (a.add (i * 2)) z := by
    intro i hi
    by_cases hil : i < len
    · have e := hel i hil
      rw [List.getElem?_eq_getElem (by omega)] at e
      obtain ⟨cs, hc, ht⟩ := Option.bind_eq_some_iff.1 e
      exact open_weighing hc ht (fun m hm => hsz m (.inr (.inl (weights_mem_all (List.mem_map.2 ⟨_, List.getElem_mem _, rfl⟩) m hm))))
    · have e := hre (i - len) (by omega)
      rw [List.getElem?_eq_getElem (by omega), show len + (i - len) = i by omega] at e
      obtain ⟨cs, hc, ht⟩ := Option.bind_eq_some_iff.1 e
      exact open_weighing hc ht (fun m hm => hsz m (.inr (.inr (weights_mem_all (List.mem_map.2 ⟨_, List.getElem_mem _, rfl⟩) m hm))))
  obtain ⟨zs, hzl, hz⟩ := list_of (z53, 0, 0) cap _ each
  have hget : ∀ i, i < cap → (zs.map (·.1)).getD i z53 = (zs.getD i (z53, 0, 0)).1 := by
    intro i hi
    simp [List.getD_eq_getElem?_getD, List.getElem?_map, List.getElem?_eq_getElem (show i < zs.length by omega)]
  have hmem : ∀ z, z ∈ zs → ∃ b, PlanAt W b z := by
    intro z h
    obtain ⟨i, hi, rfl⟩ := List.mem_iff_getElem.1 h
    have := hz i (by omega)
    rw [List.getD_eq_getElem?_getD, List.getElem?_eq_getElem hi] at this
    exact ⟨_, this⟩
  have hl2 : ((zs.take len).map fun z => (⟨z.1.f0.take z.2.1, z.1.f1.take z.2.2⟩ : S53)).length = len := by simp; omega
  have hl3 : (zs.map (·.1)).length = cap := by simp; omega
  refine ⟨some a, (zs.take len).map fun z => ⟨z.1.f0.take z.2.1, z.1.f1.take z.2.2⟩, zs.map (·.1), by rw [hl2, hl3], by omega, by omega, ?_, ?_, ?_, ?_⟩
  · refine ⟨rfl, by omega, fun h0 => ⟨a, rfl, fun j p hj => ?_⟩⟩
    rw [List.getElem?_map, Option.map_eq_some_iff] at hj
    obtain ⟨z, hj, rfl⟩ := hj
    rw [List.getElem?_take] at hj
    split at hj
    rotate_left
    · cases hj
    rename_i hjl
    have hp := hz j (by omega)
    rw [List.getD_eq_getElem?_getD, hj, Option.getD_some] at hp
    obtain ⟨Al, Ar, h0, h1, hC0, hC1⟩ := hp.at_
    have t0 := C_take hC0 _ hp.nl
    have t1 := C_take hC1 _ hp.nr
    have n0 : (z.1.f0.take z.2.1).length = z.2.1 := by rw [List.length_take]; have := hp.nl; omega
    have n1 : (z.1.f1.take z.2.2).length = z.2.2 := by rw [List.length_take]; have := hp.nr; omega
    refine ⟨[.slice Al (z.1.f0.take z.2.1).length z.1.f0.length, .slice Ar (z.1.f1.take z.2.2).length z.1.f1.length], rfl, k53_mk W ⟨z.1.f0.take z.2.1, z.1.f1.take z.2.2⟩ (by rw [n0]; exact hp.nl) (by rw [n0]; exact t0) (by rw [n1]; exact hp.nr) (by rw [n1]; exact t1), ?_⟩
    rw [n0, n1]
    intro i u hu
    match i with
    | 0 =>
      obtain rfl := Option.some.inj hu
      rw [show k53.sz = 2 from rfl, Nat.add_zero]
      exact h0
    | 1 =>
      obtain rfl := Option.some.inj hu
      rw [show k53.sz = 2 from rfl, add_field a (j * 2) 1 (by omega)]
      exact h1
    | i + 2 => cases hu
  · intro i hi
    rw [hl3] at hi
    have hp := hz i hi
    obtain ⟨Al, Ar, h0, h1, hC0, hC1⟩ := hp.at_
    rw [hget i hi]
    exact ⟨a, Al, _, Ar, _, rfl, h0, h1, hp.nl, hp.nr, hC0, hC1⟩
  · intro y hy
    obtain ⟨z, hz, rfl⟩ := List.mem_map.1 hy
    obtain ⟨b, hp⟩ := hmem z hz
    exact ⟨hp.bl, hp.br⟩
  · intro y hy
    obtain ⟨z, hz, rfl⟩ := List.mem_map.1 hy
    obtain ⟨b, hp⟩ := hmem z (List.mem_of_mem_take hz)
    have := hp.bl
    have := hp.br
    exact ⟨fun x hx => hp.il x (List.mem_of_mem_take hx), fun x hx => hp.ir x (List.mem_of_mem_take hx), by rw [List.length_take]; omega, by rw [List.length_take]; omega⟩
end Go.Proofs.Ytdbeochifofdoaa.X
end

section
/-! Cases that come in, and lists of numbers. -/
namespace Go.Proofs.Ytdbeochifofdoaa.X
open Go.ChangeShapes Go.WideShapes Go.RowKit Go.Proofs.YtdbeochifofdoaaW.PrintWords Go.Proofs.YtdbeochifofdoaaW.PrintLast Go.Proofs.YtdbeochifofdoaaW.PrintMore
set_option linter.unusedVariables false
set_option linter.unusedSimpArgs false

theorem open_case2 {H : Type} {enc : TypeId × Value → H} {W : World} {fuel : Nat} {cs : List Value} {x : DataW H × List MemPlace}
    (h : DataW.trod enc Try.prog W 0 (fun _ => true) true fuel 35 cs = some x) : ∃ a b : Int, cs = [.int .i64 a, .int .i64 b] ∧ (Lit.int .i64 a).wf = true ∧ (Lit.int .i64 b).wf = true := by
  obtain ⟨xs, n, _, rfl, hcs, hxs, hf⟩ := DataW.trod_struct Try.underlying35 h
  rw [show Try.prog.cellsOf 35 = 2 from by kernel_rfl] at hcs
  obtain ⟨c0, c1, rfl⟩ : ∃ c0 c1, cs = [c0, c1] := o_two_of hcs
  obtain ⟨x0, x1, rfl⟩ : ∃ c0 c1, xs = [c0, c1] := o_two_of hxs
  have e0 := hf 0 ⟨"Lot", 3, 0, false, "", "", 0⟩ rfl
  have e1 := hf 1 ⟨"Way", 3, 1, false, "", "", 8⟩ rfl
  rw [o_cells3] at e0 e1
  obtain ⟨a, q0, _, w0⟩ := DataW.trod_int Try.underlying3 e0
  obtain ⟨b, q1, _, w1⟩ := DataW.trod_int Try.underlying3 e1
  obtain rfl : c0 = .int .i64 a := by simpa using q0
  obtain rfl : c1 = .int .i64 b := by simpa using q1
  exact ⟨a, b, rfl, w0, w1⟩
set_option maxRecDepth 100000 in
theorem open_case {H : Type} {enc : TypeId × Value → H} {W : World} {r : Reach} {b0 : Nat} {v : Value} {d : DataW H} {ps : List MemPlace} (hv : Value.okWide Try.prog W r b0 35 v) (h : DataW.Trod enc Try.prog W 0 (fun _ => true) true 35 v d ps) :
    ∃ a b : Int, v = .agg #[.int .i64 a, .int .i64 b] ∧ (Lit.int .i64 a).wf = true ∧ (Lit.int .i64 b).wf = true := by
  obtain ⟨cs, rfl, _⟩ := okWide_struct Try.underlying35 hv
  obtain ⟨fuel, hf⟩ := h
  obtain ⟨a, b, e, w0, w1⟩ := open_case2 hf
  have e2 : cs = #[.int .i64 a, .int .i64 b] := Array.toList_inj.1 e
  exact ⟨a, b, by rw [e2], w0, w1⟩
theorem o_underlying38 : Try.prog.underlying 38 = Try.prog.underlying 37 := by kernel_rfl
set_option maxRecDepth 100000 in
theorem open_two {H : Type} {enc : TypeId × Value → H} {W : World} {r : Reach} {b0 : Nat} {v : Value} {d : DataW H} {ps : List MemPlace} (hv : Value.okWide Try.prog W r b0 38 v) (h : DataW.Trod enc Try.prog W 0 (fun _ => true) true 38 v d ps) :
    ∃ a b c d : Int, v = .agg #[.int .i64 a, .int .i64 b, .int .i64 c, .int .i64 d] := by
  have hu := o_underlying38.trans Try.underlying37
  obtain ⟨cs, rfl, _⟩ := okWide_struct hu hv
  obtain ⟨fuel, hf⟩ := h
  obtain ⟨xs, n, _, _, hcs, hxs, hf⟩ := DataW.trod_struct hu hf
  obtain ⟨x0, x1, rfl⟩ : ∃ c0 c1, xs = [c0, c1] := o_two_of hxs
  have e0 := hf 0 ⟨"C", 35, 0, false, "", "", 0⟩ rfl
  have e1 := hf 1 ⟨"D", 35, 2, false, "", "", 16⟩ rfl
  rw [show Try.prog.cellsOf 38 = 4 from by kernel_rfl] at hcs
  rw [show Try.prog.cellsOf 35 = 2 from by kernel_rfl] at e0 e1
  obtain ⟨a, b, q0, _, _⟩ := open_case2 e0
  obtain ⟨c, d, q1, _, _⟩ := open_case2 e1
  refine ⟨a, b, c, d, ?_⟩
  have hc : cs.toList = [.int .i64 a, .int .i64 b, .int .i64 c, .int .i64 d] := by
    have h1 : cs.toList.take 2 = [.int .i64 a, .int .i64 b] := q0
    have h2 : cs.toList.drop 2 = [.int .i64 c, .int .i64 d] := by
      have : (cs.toList.drop 2).take 2 = [.int .i64 c, .int .i64 d] := q1
      rwa [List.take_of_length_le (by rw [List.length_drop]; simp only [Value.cells] at hcs; omega)] at this
    rw [← List.take_append_drop 2 cs.toList, h1, h2]
    rfl
  have e2 : cs = #[.int .i64 a, .int .i64 b, .int .i64 c, .int .i64 d] := Array.toList_inj.1 hc
  rw [e2]
/-- A list of numbers that comes in, up to its length and up to its capacity. -/
theorem open_nums {H : Type} {enc : TypeId × Value → H} {W : World} {v : Value} {d : DataW H} {ps : List MemPlace} (h : DataW.Trod enc Try.prog W 0 (fun _ => true) true 43 v d ps) (hv : v.cells = #[v])
    (hsz : ∀ n ∈ d.weights Try.prog 43, n ≤ reachBytes) :
    ∃ (A : Option Addr) (l ys : List Int), v = .slice A l.length ys.length ∧ l.length ≤ ys.length ∧ ys.length ≤ 17592186044416 ∧ Kd.C (Kd.int .i64) W A l.length l ∧ Kd.C (Kd.int .i64) W A ys.length ys ∧ ∀ x, x ∈ l → (Lit.int .i64 x).wf = true := by
  obtain ⟨fuel, hf⟩ := h
  rw [hv] at hf
  obtain ⟨A, n, ys, hcs, hn, hl, hC, hw⟩ := open_intsK o_underlying43 hf hsz
  obtain rfl : v = .slice A n ys.length := by simpa using hcs
  have e : (ys.take n).length = n := by rw [List.length_take]; omega
  refine ⟨A, ys.take n, ys, by rw [e], by omega, hl, ?_, hC, fun x hx => hw x (List.mem_of_mem_take hx)⟩
  rw [e]
  exact C_take hC n hn
end Go.Proofs.Ytdbeochifofdoaa.X
end

section
-- Written by a program of this session (wip/hook.py, which runs the kit's print.py with contracts proved by hand). Not trusted: Lean checks it.
namespace Go.Proofs.Ytdbeochifofdoaa.X
open Go.RowKit Go.Proofs.YtdbeochifofdoaaW.PrintWords Go.Proofs.YtdbeochifofdoaaW.PrintLast Go.Proofs.YtdbeochifofdoaaW.PrintMore
attribute [local go_sem] max2_int min2_int max_two min_two max_three min_three max_four min_four   -- for this text's walks alone
set_option linter.unusedVariables false
set_option linter.unusedSimpArgs false

/-! ### verditerref06_times: function 79 -/
def verditerref06_times.l0 : Nat → List Int → Int → List Int → Int → Option (List Int)
  | 0, _, _, _, _ => none
  | k + 1, x0, x1, x5, x6 => if x6 < (x0.length : Int) then (if 0 ≤ x6 then (if x5.length < 17592186044416 then (verditerref06_times.l0 k x0 x1 (x5 ++ [wrap64 (x1 * (rd x0 x6))]) (wrap64 (x6 + 1))) else (none)) else (none)) else (some x5)
def verditerref06_times.f (k : Nat) (l0 : List Int) (a1 : Int) : Option (List Int) := verditerref06_times.l0 k l0 a1 ([] : List Int) 0
theorem verditerref06_times.mono_l : ∀ k, (∀ y0 y1 y2 y3, LeO (verditerref06_times.l0 k y0 y1 y2 y3) (verditerref06_times.l0 (k + 1) y0 y1 y2 y3))
  | 0 => fun _ _ _ _ r h => by simp [verditerref06_times.l0] at h
  | k + 1 => by
    have ih0 := verditerref06_times.mono_l k
    · intro y0 y1 y2 y3
      unfold verditerref06_times.l0
      repeat' first
      | (with_reducible exact ih0 _ _ _ _)
      | (with_reducible exact LeO.refl _)
      | (with_reducible exact LeO.none _)
      | (with_reducible refine LeO.ite ?_ ?_)
      | (with_reducible refine LeO.bind ?_ (fun _ => ?_))
      | exact ih0 _ _ _ _
      | exact LeO.none _
      | refine LeO.ite ?_ ?_
      | refine LeO.bind ?_ (fun _ => ?_)
theorem verditerref06_times.mono : ∀ a0 a1 k, LeO (verditerref06_times.f k a0 a1) (verditerref06_times.f (k + 1) a0 a1) := by
  intro a0 a1 k
  have ih0 := verditerref06_times.mono_l k
  unfold verditerref06_times.f
  repeat' first
      | (with_reducible exact ih0 _ _ _ _)
      | (with_reducible exact LeO.refl _)
      | (with_reducible exact LeO.none _)
      | (with_reducible refine LeO.ite ?_ ?_)
      | (with_reducible refine LeO.bind ?_ (fun _ => ?_))
      | exact ih0 _ _ _ _
      | exact LeO.none _
      | refine LeO.ite ?_ ?_
      | refine LeO.bind ?_ (fun _ => ?_)
set_option maxHeartbeats 8000000 in
set_option maxRecDepth 100000 in
theorem verditerref06_times.calls (k : Nat) (A0 : Option Addr) (c0 : Nat) (l0 : List Int) (a1 : Int) (r : List Int) (w : World) (hr0 : Kd.C (Kd.int .i64) w A0 l0.length l0) (hc0 : l0.length ≤ c0) (h : verditerref06_times.f k l0 a1 = some r) :
    Calls Try.prog 79 #[.slice A0 l0.length c0, .int .i64 a1] w fun e w' => ∃ v0_ : Value, e = .returned (v0_) ∧ Kd.R (Kd.int .i64) 3 w' w.heap.size (fun _ => True) v0_ r ∧ Below w.heap.size w w' := by
  have HR0 := Aside0.mk hr0
  have HC0 := Aside0.mk hc0
  clear hr0 hc0
  have HB := Aside0.mk (Below.refl w.heap.size w)
  have H : (verditerref06_times.l0 k l0 a1 ([] : List Int) 0) = some r := h
  clear h
  have H' := Aside0.mk H
  clear H
  go_enter Try.func79, Try.ntmps79
  go_wp2
  go_loopg [5, 6] k (fun kq v5 v6 w' => ∃ (x5_1 : List Int) (x6_1 : Int), v6 = .int .i64 x6_1 ∧ Aside0 (verditerref06_times.l0 kq l0 a1 x5_1 x6_1 = some r) ∧ Aside0 (kq ≤ k) ∧ Aside0 (Kd.R (Kd.int .i64) 3 w' w.heap.size (fun _ => True) v5 x5_1) ∧ Aside0 (Below w.heap.size w w'))
  case atStart => exact ⟨(([] : List Int)), (0), (by first | rfl | (simp; done) | (simp [*]; done)), H', ⟨Nat.le_refl _⟩, ⟨by first | exact Kd.R_nil _ _ _ _ _ | exact Kd.N_nil _ _ _ _ _ | exact Kd.V_nil _ _ _ _ _ | exact Kd.Q_nil _ _ _ _ _ | exact Kd.S_nil _ _ _ _ _⟩, ⟨by repeat (first | (with_reducible first | exact HB.out | apply below_alloc | apply pw_below_drewN | apply below_drew1) | exact HB.out)⟩⟩
  case round =>
    clear H'
    try clear p2
    obtain ⟨x5_1, x6_1, rfl, HA, HK1, HO_5, HB⟩ := hrel
    cases gk with
    | zero => exact absurd HA.out (by simp [verditerref06_times.l0])
    | succ k1 =>
      have H := HA.out
      clear HA
      simp only [verditerref06_times.l0] at H
      by_cases c3 : x6_1 < (l0.length : Int)
      · rw [if_pos c3] at H
        have c3b0 : decide (x6_1 < (l0.length : Int)) = true := decide_eq_true c3
        clear c3
        by_cases c4 : 0 ≤ x6_1
        · rw [if_pos c4] at H
          have c4b0 : decide (0 ≤ x6_1) = true := decide_eq_true c4
          clear c4
          by_cases c5 : x5_1.length < 17592186044416
          · rw [if_pos c5] at H
            have LMc5 := Aside0.mk c5
            clear c5
            obtain ⟨y197, hy197⟩ : ∃ y_ : List Int, y_ = (x5_1 ++ [wrap64 (a1 * (rd l0 x6_1))]) := ⟨_, rfl⟩
            replace H : (verditerref06_times.l0 k1 l0 a1 y197 (wrap64 (x6_1 + 1))) = some r := by first | (rw [hy197]; with_reducible exact H) | (have H2_ := (Option.bind_some _ _).symm.trans H; rw [hy197]; with_reducible exact H2_) | (have H2_ := (Option.bind_some _ _).symm.trans H; with_reducible exact H2_) | with_reducible exact H | (rw [hy197]; exact H) | exact H
            have Ny197 := Aside0.mk hy197
            clear hy197
            have H' := Aside0.mk H
            clear H
            have p196 : 0 ≤ (x6_1 : Int) := of_decide_eq_true (by first | (with_reducible assumption) | assumption)
            have q196 : x6_1 < (l0.length : Int) := of_decide_eq_true (by first | (with_reducible assumption) | assumption)
            obtain ⟨ad196, e196, hx196_0⟩ := Kd.at_int HR0.out x6_1 p196 q196
            cases e196
            replace hx196_0 := (HB.out.cell (World.block_lt_of_cell? w _ hx196_0)).trans hx196_0
            replace p196 := eq_true p196
            replace q196 := eq_true q196
            go_wp2_with (first | ((with_reducible refine gate_builtin (b := .append) (xs := #[.tmp 13, .tmp 20]) rfl ?_); at_builtin; refine Kd.R_append (Kd.int .i64) (w0 := w) w.heap.size rfl (.tmp 13) (.tmp 20) 43 3 (.int .i64 0) 8 rfl Try.underlying43 info3 rfl (by decide) (by omega) u5 x5_1 (wrap64 (a1 * (rd l0 x6_1))) [.int .i64 (wrap64 (a1 * (rd l0 x6_1)))] (fun _ => True) (fun _ => False) rfl rfl ?aP (fun _ hk => hk.elim) ?aF ?aO ?aB ?aS ?aL ?_; (case aP => exact rfl); (case aB => exact (by repeat (first | (with_reducible first | exact HB.out | apply below_alloc | apply pw_below_drewN | apply below_drew1) | exact HB.out))); (case aF => exact (fun _ _ => trivial)); (case aO => exact (by (with_reducible repeat (first | apply Kd.R_alloc | apply Kd.R_drewN | apply Kd.R_drew)); exact HO_5.out)); (case aS => exact (below_size (by repeat (first | (with_reducible first | exact HB.out | apply below_alloc | apply pw_below_drewN | apply below_drew1) | exact HB.out)))); (case aL => have := LMc5.out; omega); intro v198 w6 ho hb hg hat; rw [← Ny197.out] at ho; have n0_ := Aside0.mk (hb); have n1_ := Aside0.mk (ho); clear HB; clear HO_5; have HB := n0_; have HO199 := n1_; clear n0_ n1_; clear ho hb hg hat))
            go_roundg k1
            case measure => have := HK1.out; omega
            case rel => exact ⟨(y197), (wrap64 (x6_1 + 1)), (by first | rfl | (simp; done) | (simp [*]; done)), H', ⟨by have := HK1.out; omega⟩, ⟨by (with_reducible repeat (first | apply Kd.R_alloc | apply Kd.R_drewN | apply Kd.R_drew)); exact HO199.out⟩, ⟨by repeat (first | (with_reducible first | exact HB.out | apply below_alloc | apply pw_below_drewN | apply below_drew1) | exact HB.out)⟩⟩
          · rw [if_neg c5] at H
            exact absurd H (by simp)
        · rw [if_neg c4] at H
          exact absurd H (by simp)
      · rw [if_neg c3] at H
        have c3b0 : decide (x6_1 < (l0.length : Int)) = false := decide_eq_false c3
        clear c3
        obtain rfl := Option.some.inj H
        go_wp2
        go_ret
        exact ⟨_, by first | rfl | (simp [errW_none, errW_some] <;> rfl) | (simp [*, errW_none, errW_some] <;> rfl), by (with_reducible repeat (first | apply Kd.R_alloc | apply Kd.R_drewN | apply Kd.R_drew)); exact HO_5.out, by repeat (first | (with_reducible first | exact HB.out | apply below_alloc | apply pw_below_drewN | apply below_drew1) | exact HB.out)⟩

end Go.Proofs.Ytdbeochifofdoaa.X
end

section
-- Written by a program of this session (wip/hook.py, which runs the kit's print.py with contracts proved by hand). Not trusted: Lean checks it.
namespace Go.Proofs.Ytdbeochifofdoaa.X
open Go.RowKit Go.Proofs.YtdbeochifofdoaaW.PrintWords Go.Proofs.YtdbeochifofdoaaW.PrintLast Go.Proofs.YtdbeochifofdoaaW.PrintMore
attribute [local go_sem] max2_int min2_int max_two min_two max_three min_three max_four min_four   -- for this text's walks alone
set_option linter.unusedVariables false
set_option linter.unusedSimpArgs false

/-! ### verditerref06_has: function 101 -/
def verditerref06_has.l0 : Nat → List Int → Int → Int → Option (Bool)
  | 0, _, _, _ => none
  | k + 1, x0, x1, x5 => if x5 < (x0.length : Int) then (if 0 ≤ x5 then (if (rd x0 x5) = x1 then (some true) else (verditerref06_has.l0 k x0 x1 (wrap64 (x5 + 1)))) else (none)) else (some false)
def verditerref06_has.f (k : Nat) (l0 : List Int) (a1 : Int) : Option (Bool) := verditerref06_has.l0 k l0 a1 0
theorem verditerref06_has.mono_l : ∀ k, (∀ y0 y1 y2, LeO (verditerref06_has.l0 k y0 y1 y2) (verditerref06_has.l0 (k + 1) y0 y1 y2))
  | 0 => fun _ _ _ r h => by simp [verditerref06_has.l0] at h
  | k + 1 => by
    have ih0 := verditerref06_has.mono_l k
    · intro y0 y1 y2
      unfold verditerref06_has.l0
      repeat' first
      | (with_reducible exact ih0 _ _ _)
      | (with_reducible exact LeO.refl _)
      | (with_reducible exact LeO.none _)
      | (with_reducible refine LeO.ite ?_ ?_)
      | (with_reducible refine LeO.bind ?_ (fun _ => ?_))
      | exact ih0 _ _ _
      | exact LeO.none _
      | refine LeO.ite ?_ ?_
      | refine LeO.bind ?_ (fun _ => ?_)
theorem verditerref06_has.mono : ∀ a0 a1 k, LeO (verditerref06_has.f k a0 a1) (verditerref06_has.f (k + 1) a0 a1) := by
  intro a0 a1 k
  have ih0 := verditerref06_has.mono_l k
  unfold verditerref06_has.f
  repeat' first
      | (with_reducible exact ih0 _ _ _)
      | (with_reducible exact LeO.refl _)
      | (with_reducible exact LeO.none _)
      | (with_reducible refine LeO.ite ?_ ?_)
      | (with_reducible refine LeO.bind ?_ (fun _ => ?_))
      | exact ih0 _ _ _
      | exact LeO.none _
      | refine LeO.ite ?_ ?_
      | refine LeO.bind ?_ (fun _ => ?_)
set_option maxHeartbeats 8000000 in
set_option maxRecDepth 100000 in
theorem verditerref06_has.calls (k : Nat) (A0 : Option Addr) (c0 : Nat) (l0 : List Int) (a1 : Int) (r : Bool) (w : World) (hr0 : Kd.C (Kd.int .i64) w A0 l0.length l0) (hc0 : l0.length ≤ c0) (h : verditerref06_has.f k l0 a1 = some r) :
    Calls Try.prog 101 #[.slice A0 l0.length c0, .int .i64 a1] w fun e w' => e = .returned (.bool r) ∧ Drawn0 w w' := by
  have HR0 := Aside0.mk hr0
  have HC0 := Aside0.mk hc0
  clear hr0 hc0
  have H : (verditerref06_has.l0 k l0 a1 0) = some r := h
  clear h
  have H' := Aside0.mk H
  clear H
  go_enter Try.func101, Try.ntmps101
  go_wp2
  go_loopg [5] k (fun kq v5 w' => ∃ (x5_1 : Int), v5 = .int .i64 x5_1 ∧ Aside0 (verditerref06_has.l0 kq l0 a1 x5_1 = some r) ∧ Aside0 (kq ≤ k) ∧ Drawn0 w w')
  case atStart => exact ⟨(0), (by first | rfl | (simp; done) | (simp [*]; done)), H', ⟨Nat.le_refl _⟩, by repeat (first | exact Drawn0.refl _ | apply Drawn0.step)⟩
  case round =>
    clear H'
    try clear c1
    try clear p2
    obtain ⟨x5_1, rfl, HA, HK1, ⟨m1, rfl⟩⟩ := hrel
    cases gk with
    | zero => exact absurd HA.out (by simp [verditerref06_has.l0])
    | succ k1 =>
      have H := HA.out
      clear HA
      simp only [verditerref06_has.l0] at H
      by_cases c3 : x5_1 < (l0.length : Int)
      · rw [if_pos c3] at H
        have c3b0 : decide (x5_1 < (l0.length : Int)) = true := decide_eq_true c3
        clear c3
        by_cases c4 : 0 ≤ x5_1
        · rw [if_pos c4] at H
          have c4b0 : decide (0 ≤ x5_1) = true := decide_eq_true c4
          clear c4
          by_cases c5 : (rd l0 x5_1) = a1
          · rw [if_pos c5] at H
            have c5b0 : ((rd l0 x5_1) == a1) = true := beq_iff_eq.mpr c5
            have c5b1 : ((rd l0 x5_1) != a1) = false := bne_eq_false_iff_eq.mpr c5
            clear c5
            obtain rfl := Option.some.inj H
            have p183 : 0 ≤ (x5_1 : Int) := of_decide_eq_true (by first | (with_reducible assumption) | assumption)
            have q183 : x5_1 < (l0.length : Int) := of_decide_eq_true (by first | (with_reducible assumption) | assumption)
            obtain ⟨ad183, e183, hx183_0⟩ := Kd.at_int HR0.out x5_1 p183 q183
            cases e183
            replace p183 := eq_true p183
            replace q183 := eq_true q183
            go_wp2
            go_ret
            exact ⟨by first | rfl | (simp; done) | (simp [*]; done), by repeat (first | exact Drawn0.refl _ | apply Drawn0.step)⟩
          · rw [if_neg c5] at H
            have c5b0 : ((rd l0 x5_1) == a1) = false := beq_eq_false_iff_ne.mpr c5
            have c5b1 : ((rd l0 x5_1) != a1) = true := bne_iff_ne.mpr c5
            have H' := Aside0.mk H
            clear H
            have p183 : 0 ≤ (x5_1 : Int) := of_decide_eq_true (by first | (with_reducible assumption) | assumption)
            have q183 : x5_1 < (l0.length : Int) := of_decide_eq_true (by first | (with_reducible assumption) | assumption)
            obtain ⟨ad183, e183, hx183_0⟩ := Kd.at_int HR0.out x5_1 p183 q183
            cases e183
            replace p183 := eq_true p183
            replace q183 := eq_true q183
            go_wp2
            go_roundg k1
            case measure => have := HK1.out; omega
            case rel => exact ⟨(wrap64 (x5_1 + 1)), (by first | rfl | (simp; done) | (simp [*]; done)), H', ⟨by have := HK1.out; omega⟩, by repeat (first | exact Drawn0.refl _ | apply Drawn0.step)⟩
        · rw [if_neg c4] at H
          exact absurd H (by simp)
      · rw [if_neg c3] at H
        have c3b0 : decide (x5_1 < (l0.length : Int)) = false := decide_eq_false c3
        clear c3
        obtain rfl := Option.some.inj H
        go_wp2
        go_ret
        exact ⟨by first | rfl | (simp; done) | (simp [*]; done), by repeat (first | exact Drawn0.refl _ | apply Drawn0.step)⟩

end Go.Proofs.Ytdbeochifofdoaa.X
end
