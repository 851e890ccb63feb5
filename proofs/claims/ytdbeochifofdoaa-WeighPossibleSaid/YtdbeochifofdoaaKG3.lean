/- The law WeighPossible of the given program: how many different answers can be.
Its conditions: none beyond the statement's own. Part 4 of 5 of the proof. -/
import Derived.Deep.RegionHeld3
import Derived.Laws.CopyOwn
import Derived.Maps.Own
import Derived.DeepKeys4
import Derived.ChangeArms
import Derived.ChangeSlices
import Derived.SizedLaws
import Derived.Test.YtdbeochifofdoaaKG2
section
/-! weigh.Answers. -/
namespace Go.Proofs.Ytdbeochifofdoaa.X
open Go.RowKit Go.Proofs.YtdbeochifofdoaaW.PrintWords Go.Proofs.YtdbeochifofdoaaW.PrintLast Go.Proofs.YtdbeochifofdoaaW.PrintMore
set_option linter.unusedVariables false
set_option linter.unusedSimpArgs false

section
variable {P : Program} {ops : Array Oper} {Q : Exit → Act → World → Prop}
/-- A load, or another operation that gives a value, in a region of open order. -/
theorem val_ {oi : Oper} {N : Option Tmp} {a : Act} {w : World} {K : Act → World → Prop} {v : Value} (hw : Region.wanted oi (yielded ops a.tmps) = true) (hN : oi.dst = N) (hrun : (execOp a.eval oi).run P w = .ok (.value v) w)
    (h : K (a.put N v) w) : if Region.wanted oi (yielded ops a.tmps) = true then Oper.wp P oi a w K Q else K (a.put N undef) w := by
  rw [if_pos hw]
  unfold Oper.wp
  rw [hrun]
  subst hN
  exact h
end
/-- A mark times a way. -/
def tim3 (m : S70) (k : Int) : S70 := ⟨wrap64 (m.f0 * k), wrap64 (m.f1 * k), wrap64 (m.f2 * k)⟩
def weigh_Answers.f (a0 : Int) (l1 : List S53) (c0 c1 : Int) : Option (List Int × Int) :=
  if cErr a0 l1 [⟨c0, c1⟩] = 0 then some (cut3 l1.length (tim3 ((marksL a0 l1).getD c0.toNat z70) c1), 0) else some ([], cErr a0 l1 [⟨c0, c1⟩])
/-- A case in a block of its own, as a row of one. -/
theorem C35_one {W : World} {g : Nat} {a b : Int} (h : W.heap[g]? = some (.cells #[.int .i64 a, .int .i64 b] 35 (0, 0))) : Kd.C k35 W (some ⟨g, 0, none⟩) 1 [(⟨a, b⟩ : S35)] := by
  refine ⟨rfl, by omega, fun _ => ⟨_, rfl, fun j p hj => ?_⟩⟩
  match j, hj with
  | 0, hj =>
    obtain rfl := Option.some.inj hj
    refine ⟨[.int .i64 a, .int .i64 b], rfl, ⟨[.int .i64 a], [.int .i64 b], rfl, rfl, rfl⟩, fun i u hu => ?_⟩
    rw [add_plain, blk_cell h]
    simpa using hu
  | j + 1, hj => cases hj
theorem cErr_at {lots : Int} {l : List S53} {c0 c1 : Int} (h : cErr lots l [⟨c0, c1⟩] = 0) : pErr lots l = 0 ∧ 0 ≤ c0 ∧ c0 < lots := by
  unfold cErr at h
  by_cases hp : pErr lots l = 0
  · rw [if_pos hp] at h
    refine ⟨hp, ?_⟩
    by_cases h1 : ([(⟨c0, c1⟩ : S35)].any (fun x => !(decide (0 ≤ x.f0) && decide (x.f0 ≤ lots - 1)))) = true
    · rw [if_pos h1] at h; cases h
    · simp at h1
      omega
  · rw [if_neg hp] at h; exact absurd h hp
theorem marksL_len' (lots : Int) (l : List S53) : (marksL lots l).length = lots.toNat := by simp [marksL, rowsOf]
def weigh_Answers.T : Bool × List (List Nat × List Nat) := (true, [([], []), ([], []), ([0, 1], [0, 1]), ([], []), ([3], [3]), ([2, 4], [2, 4]), ([5], [5]), ([], []), ([7], [7]), ([6, 8, 2], [6, 8]), ([], []), ([10, 9, 9, 0, 1, 2, 3, 4, 5, 6, 7, 8, 9, 10], [9, 10])])
def weigh_Answers.B : List Nat := [0, 0, 3, 0, 8, 31, 63, 0, 128, 511, 0, 2047]
theorem weigh_Answers.tab : rtab .any (opsOf Try.f57 4) = weigh_Answers.T := by kernel_rfl
theorem weigh_Answers.bits : waitsOk weigh_Answers.T.2 weigh_Answers.B = true := by kernel_rfl
set_option maxHeartbeats 4000000 in
set_option maxRecDepth 100000 in
theorem weigh_Answers.calls (a0 : Int) (A1 : Option Addr) (c1 : Nat) (l1 : List S53) (b0 b1 : Int) (r1 : List Int) (r2 : Int) (w : World) (hr1 : Kd.C k53 w A1 l1.length l1) (hc1 : l1.length ≤ c1) (h : weigh_Answers.f a0 l1 b0 b1 = some (r1, r2)) :
    Calls Try.prog 57 #[.int .i64 a0, .slice A1 l1.length c1, .agg #[.int .i64 b0, .int .i64 b1]] w fun e w' => ∃ v0_ : Value, e = .returned (.tuple #[v0_, .int .i64 r2]) ∧ Kd.R (Kd.int .i64) 3 w' w.heap.size (fun _ => True) v0_ r1 ∧ Below w.heap.size w w' := by
  have HR := Aside0.mk hr1
  have HC := Aside0.mk hc1
  unfold weigh_Answers.f at h
  obtain ⟨q, hq⟩ : ∃ q, q = cErr a0 l1 [⟨b0, b1⟩] := ⟨_, rfl⟩
  have HF := Aside0.mk (show weigh_cased.f a0 l1 [⟨b0, b1⟩] = some q by rw [hq]; rfl)
  have HQ := Aside0.mk hq
  rw [← hq] at h
  clear hq hr1 hc1
  go_enter Try.func57, Try.ntmps57
  go_wp2_with fail
  have hcC := C35_one (a := b0) (b := b1) (blk_new (w.alloc (.cells #[.int .i64 b0, .int .i64 b1] 35)) (.cells #[.int .i64 b0, .int .i64 b1] 35))
  rw [show (w.alloc (.cells #[.int .i64 b0, .int .i64 b1] 35)).heap.size = w.heap.size + 1 from by simp] at hcC
  refine (weigh_cased.calls a0 A1 c1 l1 _ 1 [⟨b0, b1⟩] q _ (Kd.C_alloc (Kd.C_alloc HR.out _) _) HC.out hcC (by simp) HF.out).mono ?_
  rintro e w1 ⟨rfl, hb⟩
  have HB := Aside0.mk ((below_alloc (below_alloc (Below.refl _ w) (.cells #[.int .i64 b0, .int .i64 b1] 35)) (.cells #[.int .i64 b0, .int .i64 b1] 35)).trans (hb.mono (by simp; omega)))
  have BK := Aside0.mk (blk_below (blk_alloc (blk_new w (.cells #[.int .i64 b0, .int .i64 b1] 35)) (.cells #[.int .i64 b0, .int .i64 b1] 35)) hb)
  clear hb hcC
  by_cases hz : q = 0
  rotate_left
  · rw [if_neg hz] at h
    simp only [Option.some.injEq, Prod.mk.injEq] at h
    obtain ⟨rfl, rfl⟩ := h
    have q1 : (q != 0) = true := by simpa using hz
    go_wp2
    go_ret2
    exact ⟨_, rfl, Kd.R_nil _ _ _ _ _, HB.out⟩
  subst hz
  rw [if_pos rfl] at h
  simp only [Option.some.injEq, Prod.mk.injEq] at h
  obtain ⟨h1, rfl⟩ := h
  obtain ⟨hp, hlo, hhi⟩ := cErr_at HQ.out.symm
  have few := (pErr_ok hp).few
  have HMF := Aside0.mk (show weigh_marks.f a0 l1 = some (marksL a0 l1) by unfold weigh_marks.f; rw [if_pos hp])
  obtain ⟨n0, rfl⟩ := Int.eq_ofNat_of_zero_le hlo
  have hlen : n0 < (marksL a0 l1).length := by rw [marksL_len']; omega
  rw [show ((n0 : Int)).toNat = n0 from rfl] at h1
  generalize marksL a0 l1 = L at *
  have H1 := Aside0.mk h1
  clear h1 hp
  go_wp2
  have HBd := Aside0.mk (below_drew1 HB.out)
  have BKd := Aside0.mk (blk_drew BK.out)
  refine start_ (n := 12) (S := fun w' => w'.cell? ⟨w.heap.size, 0, none⟩ = some (.int .i64 (n0 : Int)) ∧ w'.cell? ⟨w.heap.size, 1, none⟩ = some (.int .i64 b1)) (ds := []) #[false, false, false, false, false, false, false, false, false, false, false, false] (by kernel_rfl) rfl rfl ⟨(blk_cell BKd.out 0).trans rfl, (blk_cell BKd.out 1).trans rfl⟩ (fun hHeld => ?_)
  refine with_tabW weigh_Answers.tab weigh_Answers.bits (fun HT_ HW_ => ?_)
  clear HB BK
  generalize w1.drew = w2 at HBd BKd hHeld ⊢
  refine pure_ (i := 0) (N := some 18) (v := ?_) (a' := ?_) #[true, false, false, false, false, false, false, false, false, false, false, false] rfl rfl (any_of HT_.out (by kernel_rfl)) (fun _ _ _ h => h) (Or.inl ⟨by rfl, ?_⟩) ?_ ?_
  rotate_left
  · intro w'
    go_simp
    with_reducible rfl
  rotate_left
  · simp only [Act.put, List.setIfInBounds_toArray, List.set_cons_zero, List.set_cons_succ, i64_w, i32_w]
    rfl
  refine pure_ (i := 1) (N := some 19) (v := ?_) (a' := ?_) #[true, true, false, false, false, false, false, false, false, false, false, false] rfl rfl (any_of HT_.out (by kernel_rfl)) (fun _ _ _ h => h) (Or.inl ⟨by rfl, ?_⟩) ?_ ?_
  rotate_left
  · intro w'
    go_simp
    with_reducible rfl
  rotate_left
  · simp only [Act.put, List.setIfInBounds_toArray, List.set_cons_zero, List.set_cons_succ, i64_w, i32_w]
    rfl
  refine pure_ (i := 3) (N := some 21) (v := ?_) (a' := ?_) #[true, true, false, true, false, false, false, false, false, false, false, false] rfl rfl (any_of HT_.out (by kernel_rfl)) (fun _ _ _ h => h) (Or.inl ⟨by rfl, ?_⟩) ?_ ?_
  rotate_left
  · intro w'
    go_simp
    with_reducible rfl
  rotate_left
  · simp only [Act.put, List.setIfInBounds_toArray, List.set_cons_zero, List.set_cons_succ, i64_w, i32_w]
    rfl
  refine pure_ (i := 7) (N := some 25) (v := ?_) (a' := ?_) #[true, true, false, true, false, false, false, true, false, false, false, false] rfl rfl (any_of HT_.out (by kernel_rfl)) (fun _ _ _ h => h) (Or.inl ⟨by rfl, ?_⟩) ?_ ?_
  rotate_left
  · intro w'
    go_simp
    with_reducible rfl
  rotate_left
  · simp only [Act.put, List.setIfInBounds_toArray, List.set_cons_zero, List.set_cons_succ, i64_w, i32_w]
    rfl
  refine take_ (i := 4) (N := some 22) (v := ?_) (a' := ?_) #[true, true, false, true, true, false, false, true, false, false, false, false] rfl rfl (take_ofW HT_.out HW_.out (by kernel_rfl)) (fun _ _ _ h => h) (Or.inl ⟨by rfl, ?_⟩) hHeld ?_ ?_
  rotate_left
  · rintro w' ⟨s0, s1⟩
    go_simp
    with_reducible rfl
  rotate_left
  · simp only [Act.put, List.setIfInBounds_toArray, List.set_cons_zero, List.set_cons_succ, i64_w, i32_w]
    rfl
  refine take_ (i := 8) (N := some 26) (v := ?_) (a' := ?_) #[true, true, false, true, true, false, false, true, true, false, false, false] rfl rfl (take_ofW HT_.out HW_.out (by kernel_rfl)) (fun _ _ _ h => h) (Or.inl ⟨by rfl, ?_⟩) hHeld ?_ ?_
  rotate_left
  · rintro w' ⟨s0, s1⟩
    go_simp
    with_reducible rfl
  rotate_left
  · simp only [Act.put, List.setIfInBounds_toArray, List.set_cons_zero, List.set_cons_succ, i64_w, i32_w]
    rfl
  have ltz : ((n0 : Int) < (L.length : Int)) := by omega
  have gez : (0 : Int) ≤ (n0 : Int) := by omega
  obtain ⟨m, hm⟩ : ∃ m, L.getD n0 z70 = m := ⟨_, rfl⟩
  obtain ⟨t0, ht0⟩ : ∃ z, z = wrap64 (m.f0 * b1) := ⟨_, rfl⟩
  obtain ⟨t1, ht1⟩ : ∃ z, z = wrap64 (m.f1 * b1) := ⟨_, rfl⟩
  obtain ⟨t2, ht2⟩ : ∃ z, z = wrap64 (m.f2 * b1) := ⟨_, rfl⟩
  have HTM := Aside0.mk (show weigh_mark_times.f m.f0 m.f1 m.f2 b1 = some (t0, t1, t2) by rw [ht0, ht1, ht2]; rfl)
  have HR1 := Aside0.mk (show r1 = cut3 l1.length ⟨t0, t1, t2⟩ by rw [← H1.out, hm, ht0, ht1, ht2]; rfl)
  have HC1 := HC
  clear HC H1 ht0 ht1 ht2
  have HB := HBd
  clear HBd
  refine join_ (σ := Addr × Nat × Nat) 1 (l' := #[true, true, true, true, true, true, true, true, true, true, true, false]) (fun s => [(20, .slice (some s.1) L.length s.2.1), (23, .pointer (some (s.1.add (n0 * 3)))), (24, .agg #[.int .i64 m.f0, .int .i64 m.f1, .int .i64 m.f2]), (27, .agg #[.int .i64 t0, .int .i64 t1, .int .i64 t2]), (9, .pointer (some ⟨s.2.2, 0, none⟩))])
    (fun s W => (W.cell? ⟨w.heap.size, 0, none⟩ = some (.int .i64 (n0 : Int)) ∧ W.cell? ⟨w.heap.size, 1, none⟩ = some (.int .i64 b1)) ∧ Kd.C k70 W (some s.1) L.length L ∧ W.heap[s.2.2]? = some (.cells #[.int .i64 0, .int .i64 0, .int .i64 0] 70 (0, 0)) ∧ w.heap.size < s.2.2 ∧ s.1.block ≠ s.2.2 ∧ Below w.heap.size w W) ?_ ?_
  rotate_left
  · intro hCont3
    refine join_ (σ := Addr × Nat × Nat) 2 (l' := #[true, true, true, true, true, true, true, true, true, false, true, false]) (fun s => [(20, .slice (some s.1) L.length s.2.1), (23, .pointer (some (s.1.add (n0 * 3)))), (24, .agg #[.int .i64 m.f0, .int .i64 m.f1, .int .i64 m.f2]), (9, .pointer (some ⟨s.2.2, 0, none⟩))])
      (fun s W => (W.cell? ⟨w.heap.size, 0, none⟩ = some (.int .i64 (n0 : Int)) ∧ W.cell? ⟨w.heap.size, 1, none⟩ = some (.int .i64 b1)) ∧ Kd.C k70 W (some s.1) L.length L ∧ W.heap[s.2.2]? = some (.cells #[.int .i64 0, .int .i64 0, .int .i64 0] 70 (0, 0)) ∧ w.heap.size < s.2.2 ∧ s.1.block ≠ s.2.2 ∧ Below w.heap.size w W) ?_ ?_
    rotate_left
    · intro hCont2
      refine join_ (σ := Addr × Nat × Nat) 3 (l' := #[true, true, true, true, true, true, false, true, true, false, true, false]) (fun s => [(20, .slice (some s.1) L.length s.2.1), (23, .pointer (some (s.1.add (n0 * 3)))), (9, .pointer (some ⟨s.2.2, 0, none⟩))])
        (fun s W => (W.cell? ⟨w.heap.size, 0, none⟩ = some (.int .i64 (n0 : Int)) ∧ W.cell? ⟨w.heap.size, 1, none⟩ = some (.int .i64 b1)) ∧ Kd.C k70 W (some s.1) L.length L ∧ W.heap[s.2.2]? = some (.cells #[.int .i64 0, .int .i64 0, .int .i64 0] 70 (0, 0)) ∧ w.heap.size < s.2.2 ∧ s.1.block ≠ s.2.2 ∧ Below w.heap.size w W) ?_ ?_
      rotate_left
      · intro hCont1
        refine two_ (i := 2) (j := 10) (Ni := some 20) (Nj := some 9) #[true, true, true, true, true, false, false, true, true, false, false, false] #[true, true, false, true, true, false, false, true, true, false, true, false] rfl rfl rfl rfl (two_of HT_.out (by kernel_rfl)) (by decide) (by decide) (fun K hK => ?_) (fun K hK => ?_)
        · refine goes_ Try.func90 (by kernel_rfl) rfl #[.int .i64 a0, .slice A1 l1.length c1] (by rfl) rfl rfl (by (try simp only [List.map_toArray, List.map_cons, List.map_nil]); first | done | rfl) ?_
          refine (weigh_marks.calls a0 A1 c1 l1 L _ (Kd.C_below HR.out HB.out) HC1.out HMF.out).mono ?_
          rintro e W ⟨v, rfl, hO, hb⟩
          refine ⟨_, rfl, ?_⟩
          have hS := And.intro ((hb.cell (World.block_lt_of_cell? _ _ hHeld.1)).trans hHeld.1) ((hb.cell (World.block_lt_of_cell? _ _ hHeld.2)).trans hHeld.2)
          obtain ⟨A, c, rfl⟩ := Kd.R_slice hO
          obtain ⟨_, hLc, hC⟩ := Kd.R_reads' hO
          obtain ⟨ad, hA, _⟩ := hC.2.2 (by omega)
          subst hA
          have hltb := Kd.R_lt hO ad.block rfl
          have hgeb := Kd.R_base hO ad.block rfl
          have hlez : ((n0 : Int) ≤ (c : Int)) := by omega
          have HB1 := Aside0.mk (HB.out.trans (hb.mono HB.out.size))
          clear HB
          have HB := HB1
          clear HB1
          have HC := Aside0.mk hC
          clear hC hO hb
          refine hK.out _ _ hS (fun hHeld => ?_)
          clear hK K hS
          refine norm_ (a' := ?_) ?_ ?_
          rotate_left
          · show Act.put _ (some 20) _ = _
            simp only [Act.put, List.setIfInBounds_toArray, List.set_cons_zero, List.set_cons_succ, i64_w, i32_w]
            rfl
          refine pure_ (i := 5) (N := some 23) (v := ?_) (a' := ?_) #[true, true, true, true, true, true, false, true, true, false, false, false] rfl rfl (any_of HT_.out (by kernel_rfl)) (fun _ _ _ h => h) (Or.inl ⟨by rfl, ?_⟩) ?_ ?_
          rotate_left
          · intro w'
            go_simp
            with_reducible rfl
          rotate_left
          · simp only [Act.put, List.setIfInBounds_toArray, List.set_cons_zero, List.set_cons_succ, i64_w, i32_w]
            rfl
          refine two_ (i := 6) (j := 10) (Ni := some 24) (Nj := some 9) #[true, true, true, true, true, true, true, true, true, false, false, false] #[true, true, true, true, true, true, false, true, true, false, true, false] rfl rfl rfl rfl (two_of HT_.out (by kernel_rfl)) (by decide) (by decide) (fun K hK => ?_) (fun K hK => ?_)
          · obtain ⟨ad', e1, hx0, hx1, hx2⟩ := at_T70 HC.out n0 (by omega) ltz
            cases e1
            simp only [Int.toNat_natCast] at hx0 hx1 hx2
            rw [show rd_T70 L (n0 : Int) = L.getD n0 z70 from rfl, hm] at hx0 hx1 hx2
            refine val_ (v := .agg #[.int .i64 m.f0, .int .i64 m.f1, .int .i64 m.f2]) (by rfl) rfl ?_ ?_
            · first | (go_simp; done) | (go_simp; rfl)
            have hS := hHeld
            clear hx0 hx1 hx2
            refine hK.out _ _ hS (fun hHeld => ?_)
            clear hK K hS
            refine norm_ (a' := ?_) ?_ ?_
            rotate_left
            · show Act.put _ (some 24) _ = _
              simp only [Act.put, List.setIfInBounds_toArray, List.set_cons_zero, List.set_cons_succ, i64_w, i32_w]
              rfl
            refine two_ (i := 9) (j := 10) (Ni := some 27) (Nj := some 9) #[true, true, true, true, true, true, true, true, true, true, false, false] #[true, true, true, true, true, true, true, true, true, false, true, false] rfl rfl rfl rfl (two_of HT_.out (by kernel_rfl)) (by decide) (by decide) (fun K hK => ?_) (fun K hK => ?_)
            · refine goes_ Try.func94 (by kernel_rfl) rfl #[.agg #[.int .i64 m.f0, .int .i64 m.f1, .int .i64 m.f2], .int .i64 b1] (by rfl) rfl rfl (by (try simp only [List.map_toArray, List.map_cons, List.map_nil]); first | done | rfl) ?_
              refine (weigh_mark_times.calls m.f0 m.f1 m.f2 b1 t0 t1 t2 _ HTM.out).mono ?_
              rintro e W ⟨rfl, hb⟩
              refine ⟨_, rfl, ?_⟩
              have hS := And.intro ((hb.cell (World.block_lt_of_cell? _ _ hHeld.1)).trans hHeld.1) ((hb.cell (World.block_lt_of_cell? _ _ hHeld.2)).trans hHeld.2)
              have HB1 := Aside0.mk (HB.out.trans (hb.mono HB.out.size))
              have HC1x := Aside0.mk (Kd.C_below HC.out hb)
              clear HB HC
              have HB := HB1
              have HC := HC1x
              clear HB1 HC1x
              have hltb1 : ad.block < W.heap.size := Nat.lt_of_lt_of_le hltb hb.size
              clear hltb
              have hltb := hltb1
              clear hb
              refine hK.out _ _ hS (fun hHeld => ?_)
              clear hK K hS
              refine norm_ (a' := ?_) ?_ ?_
              rotate_left
              · show Act.put _ (some 27) _ = _
                simp only [Act.put, List.setIfInBounds_toArray, List.set_cons_zero, List.set_cons_succ, i64_w, i32_w]
                rfl
              refine one_ (i := 10) (N := some 9) #[true, true, true, true, true, true, true, true, true, true, true, false] rfl rfl (one_of HT_.out (by kernel_rfl)) (by decide) (fun K hK => ?_)
              refine box_step ?hg (N := 9) ?hd (cs := #[.int .i64 0, .int .i64 0, .int .i64 0]) (t := 70) ?hr ?_; (case hd => rfl); (case hg => rfl); (case hr => first | (go_simp; done) | (go_simp; rfl))
              intro g hg W hbox hb
              have hS := And.intro ((hb.cell (World.block_lt_of_cell? _ _ hHeld.1)).trans hHeld.1) ((hb.cell (World.block_lt_of_cell? _ _ hHeld.2)).trans hHeld.2)
              have hgt : w.heap.size < g := by have := World.block_lt_of_cell? _ _ hHeld.1; dsimp only at this; omega
              have HB1 := Aside0.mk (HB.out.trans (hb.mono HB.out.size))
              clear HB
              have HB := HB1
              clear HB1
              have BKg := Aside0.mk hbox
              have HC1 := Aside0.mk (Kd.C_below HC.out hb)
              clear HC
              have HC := HC1
              clear HC1
              have NE : ad.block ≠ g := by omega
              clear hbox hb
              refine hK.out _ _ hS (fun hHeld => ?_)
              clear hK K hS
              refine norm_ (a' := ?_) ?_ ?_
              rotate_left
              · show Act.put _ (some 9) _ = _
                simp only [Act.put, List.setIfInBounds_toArray, List.set_cons_zero, List.set_cons_succ, i64_w, i32_w]
                rfl
              exact norm_ (by simp only [putAll, Act.put, List.setIfInBounds_toArray, List.set_cons_zero, List.set_cons_succ]) (hCont3 (ad, c, g) _ ⟨hHeld, HC.out, BKg.out, hgt, NE, HB.out⟩)
            · refine box_step ?hg (N := 9) ?hd (cs := #[.int .i64 0, .int .i64 0, .int .i64 0]) (t := 70) ?hr ?_; (case hd => rfl); (case hg => rfl); (case hr => first | (go_simp; done) | (go_simp; rfl))
              intro g hg W hbox hb
              have hS := And.intro ((hb.cell (World.block_lt_of_cell? _ _ hHeld.1)).trans hHeld.1) ((hb.cell (World.block_lt_of_cell? _ _ hHeld.2)).trans hHeld.2)
              have hgt : w.heap.size < g := by have := World.block_lt_of_cell? _ _ hHeld.1; dsimp only at this; omega
              have HB1 := Aside0.mk (HB.out.trans (hb.mono HB.out.size))
              clear HB
              have HB := HB1
              clear HB1
              have BKg := Aside0.mk hbox
              have HC1 := Aside0.mk (Kd.C_below HC.out hb)
              clear HC
              have HC := HC1
              clear HC1
              have NE : ad.block ≠ g := by omega
              clear hbox hb
              refine hK.out _ _ hS (fun hHeld => ?_)
              clear hK K hS
              refine norm_ (a' := ?_) ?_ ?_
              rotate_left
              · show Act.put _ (some 9) _ = _
                simp only [Act.put, List.setIfInBounds_toArray, List.set_cons_zero, List.set_cons_succ, i64_w, i32_w]
                rfl
              exact norm_ (by simp only [putAll, Act.put, List.setIfInBounds_toArray, List.set_cons_zero, List.set_cons_succ]) (hCont2 (ad, c, g) _ ⟨hHeld, HC.out, BKg.out, hgt, NE, HB.out⟩)
          · refine box_step ?hg (N := 9) ?hd (cs := #[.int .i64 0, .int .i64 0, .int .i64 0]) (t := 70) ?hr ?_; (case hd => rfl); (case hg => rfl); (case hr => first | (go_simp; done) | (go_simp; rfl))
            intro g hg W hbox hb
            have hS := And.intro ((hb.cell (World.block_lt_of_cell? _ _ hHeld.1)).trans hHeld.1) ((hb.cell (World.block_lt_of_cell? _ _ hHeld.2)).trans hHeld.2)
            have hgt : w.heap.size < g := by have := World.block_lt_of_cell? _ _ hHeld.1; dsimp only at this; omega
            have HB1 := Aside0.mk (HB.out.trans (hb.mono HB.out.size))
            clear HB
            have HB := HB1
            clear HB1
            have BKg := Aside0.mk hbox
            have HC1 := Aside0.mk (Kd.C_below HC.out hb)
            clear HC
            have HC := HC1
            clear HC1
            have NE : ad.block ≠ g := by omega
            clear hbox hb
            refine hK.out _ _ hS (fun hHeld => ?_)
            clear hK K hS
            refine norm_ (a' := ?_) ?_ ?_
            rotate_left
            · show Act.put _ (some 9) _ = _
              simp only [Act.put, List.setIfInBounds_toArray, List.set_cons_zero, List.set_cons_succ, i64_w, i32_w]
              rfl
            exact norm_ (by simp only [putAll, Act.put, List.setIfInBounds_toArray, List.set_cons_zero, List.set_cons_succ]) (hCont1 (ad, c, g) _ ⟨hHeld, HC.out, BKg.out, hgt, NE, HB.out⟩)
        · refine box_step ?hg (N := 9) ?hd (cs := #[.int .i64 0, .int .i64 0, .int .i64 0]) (t := 70) ?hr ?_; (case hd => rfl); (case hg => rfl); (case hr => first | (go_simp; done) | (go_simp; rfl))
          intro g hg W hbox hb
          have hS := And.intro ((hb.cell (World.block_lt_of_cell? _ _ hHeld.1)).trans hHeld.1) ((hb.cell (World.block_lt_of_cell? _ _ hHeld.2)).trans hHeld.2)
          have hgt : w.heap.size < g := by have := World.block_lt_of_cell? _ _ hHeld.1; dsimp only at this; omega
          have HB1 := Aside0.mk (HB.out.trans (hb.mono HB.out.size))
          clear HB
          have HB := HB1
          clear HB1
          have BKg := Aside0.mk hbox
          clear hbox hb
          refine hK.out _ _ hS (fun hHeld => ?_)
          clear hK K hS
          refine norm_ (a' := ?_) ?_ ?_
          rotate_left
          · show Act.put _ (some 9) _ = _
            simp only [Act.put, List.setIfInBounds_toArray, List.set_cons_zero, List.set_cons_succ, i64_w, i32_w]
            rfl
          refine one_ (i := 2) (N := some 20) #[true, true, true, true, true, false, false, true, true, false, true, false] rfl rfl (one_of HT_.out (by kernel_rfl)) (by decide) (fun K hK => ?_)
          refine goes_ Try.func90 (by kernel_rfl) rfl #[.int .i64 a0, .slice A1 l1.length c1] (by rfl) rfl rfl (by (try simp only [List.map_toArray, List.map_cons, List.map_nil]); first | done | rfl) ?_
          refine (weigh_marks.calls a0 A1 c1 l1 L _ (Kd.C_below HR.out HB.out) HC1.out HMF.out).mono ?_
          rintro e W ⟨v, rfl, hO, hb⟩
          refine ⟨_, rfl, ?_⟩
          have hS := And.intro ((hb.cell (World.block_lt_of_cell? _ _ hHeld.1)).trans hHeld.1) ((hb.cell (World.block_lt_of_cell? _ _ hHeld.2)).trans hHeld.2)
          obtain ⟨A, c, rfl⟩ := Kd.R_slice hO
          obtain ⟨_, hLc, hC⟩ := Kd.R_reads' hO
          obtain ⟨ad, hA, _⟩ := hC.2.2 (by omega)
          subst hA
          have hltb := Kd.R_lt hO ad.block rfl
          have hgeb := Kd.R_base hO ad.block rfl
          have hlez : ((n0 : Int) ≤ (c : Int)) := by omega
          have HB1 := Aside0.mk (HB.out.trans (hb.mono HB.out.size))
          clear HB
          have HB := HB1
          clear HB1
          have HC := Aside0.mk hC
          have NE : ad.block ≠ g := by have := blk_lt BKg.out; omega
          have BKg1 := Aside0.mk (blk_below BKg.out hb)
          clear BKg
          have BKg := BKg1
          clear BKg1
          clear hC hO hb
          refine hK.out _ _ hS (fun hHeld => ?_)
          clear hK K hS
          refine norm_ (a' := ?_) ?_ ?_
          rotate_left
          · show Act.put _ (some 20) _ = _
            simp only [Act.put, List.setIfInBounds_toArray, List.set_cons_zero, List.set_cons_succ, i64_w, i32_w]
            rfl
          refine pure_ (i := 5) (N := some 23) (v := ?_) (a' := ?_) #[true, true, true, true, true, true, false, true, true, false, true, false] rfl rfl (any_of HT_.out (by kernel_rfl)) (fun _ _ _ h => h) (Or.inl ⟨by rfl, ?_⟩) ?_ ?_
          rotate_left
          · intro w'
            go_simp
            with_reducible rfl
          rotate_left
          · simp only [Act.put, List.setIfInBounds_toArray, List.set_cons_zero, List.set_cons_succ, i64_w, i32_w]
            rfl
          exact norm_ (by simp only [putAll, Act.put, List.setIfInBounds_toArray, List.set_cons_zero, List.set_cons_succ]) (hCont1 (ad, c, g) _ ⟨hHeld, HC.out, BKg.out, hgt, NE, HB.out⟩)
      · rintro ⟨ad, c, g⟩ W ⟨hHeld, hC, hbox, hgt, NE, hB⟩
        dsimp only at hC hbox hgt NE
        clear HB
        have HB := Aside0.mk hB
        have HC := Aside0.mk hC
        have BKg := Aside0.mk hbox
        clear hC hbox hB
        refine norm_ (a' := ?_) ?_ ?_
        rotate_left
        · simp only [putAll, Act.put, List.setIfInBounds_toArray, List.set_cons_zero, List.set_cons_succ]
          rfl
        refine one_ (i := 6) (N := some 24) #[true, true, true, true, true, true, true, true, true, false, true, false] rfl rfl (one_of HT_.out (by kernel_rfl)) (by decide) (fun K hK => ?_)
        obtain ⟨ad', e1, hx0, hx1, hx2⟩ := at_T70 HC.out n0 (by omega) ltz
        cases e1
        simp only [Int.toNat_natCast] at hx0 hx1 hx2
        rw [show rd_T70 L (n0 : Int) = L.getD n0 z70 from rfl, hm] at hx0 hx1 hx2
        refine val_ (v := .agg #[.int .i64 m.f0, .int .i64 m.f1, .int .i64 m.f2]) (by rfl) rfl ?_ ?_
        · first | (go_simp; done) | (go_simp; rfl)
        have hS := hHeld
        clear hx0 hx1 hx2
        refine hK.out _ _ hS (fun hHeld => ?_)
        clear hK K hS
        refine norm_ (a' := ?_) ?_ ?_
        rotate_left
        · show Act.put _ (some 24) _ = _
          simp only [Act.put, List.setIfInBounds_toArray, List.set_cons_zero, List.set_cons_succ, i64_w, i32_w]
          rfl
        exact norm_ (by simp only [putAll, Act.put, List.setIfInBounds_toArray, List.set_cons_zero, List.set_cons_succ]) (hCont2 (ad, c, g) _ ⟨hHeld, HC.out, BKg.out, hgt, NE, HB.out⟩)
    · rintro ⟨ad, c, g⟩ W ⟨hHeld, hC, hbox, hgt, NE, hB⟩
      dsimp only at hC hbox hgt NE
      clear HB
      have HB := Aside0.mk hB
      have HC := Aside0.mk hC
      have BKg := Aside0.mk hbox
      clear hC hbox hB
      refine norm_ (a' := ?_) ?_ ?_
      rotate_left
      · simp only [putAll, Act.put, List.setIfInBounds_toArray, List.set_cons_zero, List.set_cons_succ]
        rfl
      refine one_ (i := 9) (N := some 27) #[true, true, true, true, true, true, true, true, true, true, true, false] rfl rfl (one_of HT_.out (by kernel_rfl)) (by decide) (fun K hK => ?_)
      refine goes_ Try.func94 (by kernel_rfl) rfl #[.agg #[.int .i64 m.f0, .int .i64 m.f1, .int .i64 m.f2], .int .i64 b1] (by rfl) rfl rfl (by (try simp only [List.map_toArray, List.map_cons, List.map_nil]); first | done | rfl) ?_
      refine (weigh_mark_times.calls m.f0 m.f1 m.f2 b1 t0 t1 t2 _ HTM.out).mono ?_
      rintro e W ⟨rfl, hb⟩
      refine ⟨_, rfl, ?_⟩
      have hS := And.intro ((hb.cell (World.block_lt_of_cell? _ _ hHeld.1)).trans hHeld.1) ((hb.cell (World.block_lt_of_cell? _ _ hHeld.2)).trans hHeld.2)
      have HB1 := Aside0.mk (HB.out.trans (hb.mono HB.out.size))
      have HC1x := Aside0.mk (Kd.C_below HC.out hb)
      clear HB HC
      have HB := HB1
      have HC := HC1x
      clear HB1 HC1x
      have BKg1 := Aside0.mk (blk_below BKg.out hb)
      clear BKg
      have BKg := BKg1
      clear BKg1
      clear hb
      refine hK.out _ _ hS (fun hHeld => ?_)
      clear hK K hS
      refine norm_ (a' := ?_) ?_ ?_
      rotate_left
      · show Act.put _ (some 27) _ = _
        simp only [Act.put, List.setIfInBounds_toArray, List.set_cons_zero, List.set_cons_succ, i64_w, i32_w]
        rfl
      exact norm_ (by simp only [putAll, Act.put, List.setIfInBounds_toArray, List.set_cons_zero, List.set_cons_succ]) (hCont3 (ad, c, g) _ ⟨hHeld, HC.out, BKg.out, hgt, NE, HB.out⟩)
  rintro ⟨ad, c, g⟩ W ⟨hHeld, hC, hbox, hgt, NE, hB⟩
  dsimp only at hC hbox hgt NE
  clear HB
  have HB := Aside0.mk hB
  have HC := Aside0.mk hC
  have BKg := Aside0.mk hbox
  clear hC hbox hB
  refine norm_ (a' := ?_) ?_ ?_
  rotate_left
  · simp only [putAll, Act.put, List.setIfInBounds_toArray, List.set_cons_zero, List.set_cons_succ]
    rfl
  refine one_ (i := 11) (N := none) #[true, true, true, true, true, true, true, true, true, true, true, true] rfl rfl (one_of HT_.out (by kernel_rfl)) (by decide) (fun K hK => ?_)
  have nb : w.heap.size ≠ g := by omega
  have hs0 := blk_cell BKg.out 0
  have hs1 := blk_cell BKg.out 1
  have hs2 := blk_cell BKg.out 2
  simp only [List.getElem?_toArray, List.getElem?_cons_zero, List.getElem?_cons_succ] at hs0 hs1 hs2
  have hf0 := blk_frozen BKg.out 0
  have hf1 := blk_frozen BKg.out 1
  have hf2 := blk_frozen BKg.out 2
  refine skip_ (w1 := ?_) (by rfl) rfl ?_ ?_
  rotate_left
  · go_simp
    rfl
  refine hK.out _ _ ⟨((cell_far (p := ⟨g, _, none⟩) nb _).trans ((cell_far (p := ⟨g, _, none⟩) nb _).trans ((cell_far (p := ⟨g, _, none⟩) nb _).trans hHeld.1))), ((cell_far (p := ⟨g, _, none⟩) nb _).trans ((cell_far (p := ⟨g, _, none⟩) nb _).trans ((cell_far (p := ⟨g, _, none⟩) nb _).trans hHeld.2)))⟩ (fun hHeld => ?_)
  clear hK K
  refine done_ (done_of HT_.out (by kernel_rfl)) ?_
  have BK' := Aside0.mk (blk_set (blk_set (blk_set BKg.out 0 (.int .i64 t0)) 1 (.int .i64 t1)) 2 (.int .i64 t2))
  have HB' : Aside0 (Below w.heap.size w (((W.setCell ⟨g, 0, none⟩ (.int .i64 t0)).setCell ⟨g, 1, none⟩ (.int .i64 t1)).setCell ⟨g, 2, none⟩ (.int .i64 t2))) := ⟨below_set (below_set (below_set HB.out (Nat.le_of_lt hgt)) (Nat.le_of_lt hgt)) (Nat.le_of_lt hgt)⟩
  clear hs0 hs1 hs2 hf0 hf1 hf2 hHeld
  generalize (((W.setCell ⟨g, 0, none⟩ (.int .i64 t0)).setCell ⟨g, 1, none⟩ (.int .i64 t1)).setCell ⟨g, 2, none⟩ (.int .i64 t2)) = W6 at *
  have hsl := fun (W : World) (B : Nat) => slice70 W B l1.length few
  have CF := Aside0.mk (show slices_Clone_int_int.f (cut3 l1.length ⟨t0, t1, t2⟩) = some (cut3 l1.length ⟨t0, t1, t2⟩) by unfold slices_Clone_int_int.f; rw [if_pos]; simp [cut3]; omega)
  have CL : (cut3 l1.length ⟨t0, t1, t2⟩).length = l1.length := by simp [cut3]; omega
  go_wp2_with fail
  have hcall := slices_Clone_int_int.calls (some ⟨g, 0, none⟩) 3 (cut3 l1.length ⟨t0, t1, t2⟩) (cut3 l1.length ⟨t0, t1, t2⟩) W6 (by rw [CL]; exact C_block (l := [t0, t1, t2]) BK'.out l1.length few (by simp)) (by rw [CL]; exact few) CF.out
  rw [CL] at hcall
  refine hcall.mono ?_
  rintro e w' ⟨vc, rfl, hO1, hb1⟩
  have HO1 := Aside0.mk (Kd.R_lower hO1 HB'.out.size)
  have HB1 := Aside0.mk (HB'.out.trans (hb1.mono HB'.out.size))
  clear hO1 hb1 hcall
  go_wp2
  go_ret2
  exact ⟨_, rfl, by rw [HR1.out]; exact HO1.out, HB1.out⟩
end Go.Proofs.Ytdbeochifofdoaa.X
end

section
-- Written by a program of this session (wip/hook.py, which runs the kit's print.py with contracts proved by hand). Not trusted: Lean checks it.
namespace Go.Proofs.Ytdbeochifofdoaa.X
open Go.RowKit Go.Proofs.YtdbeochifofdoaaW.PrintWords Go.Proofs.YtdbeochifofdoaaW.PrintLast Go.Proofs.YtdbeochifofdoaaW.PrintMore
attribute [local go_sem] max2_int min2_int max_two min_two max_three min_three max_four min_four   -- for this text's walks alone
set_option linter.unusedVariables false
set_option linter.unusedSimpArgs false

/-! ### weigh_cases: function 93 -/
def weigh_cases.l0 : Nat → List (S35) → Int → Int → Option ((List (S35)))
  | 0, _, _, _ => none
  | k + 1, x3, x5, x6 => if x6 < x5 then ((some (([(⟨x6, (-1)⟩ : S35), (⟨x6, 1⟩ : S35)] : List (S35)) : List (S35))).bind fun y365 => (if x3.length + y365.length < 8796093022208 then (weigh_cases.l0 k (x3 ++ y365) x5 (wrap64 (x6 + 1))) else (none))) else (some x3)
def weigh_cases.f (k : Nat) (a0 : Int) : Option ((List (S35))) := weigh_cases.l0 k ([] : List (S35)) a0 0
theorem weigh_cases.mono_l : ∀ k, (∀ y0 y1 y2, LeO (weigh_cases.l0 k y0 y1 y2) (weigh_cases.l0 (k + 1) y0 y1 y2))
  | 0 => fun _ _ _ r h => by simp [weigh_cases.l0] at h
  | k + 1 => by
    have ih0 := weigh_cases.mono_l k
    · intro y0 y1 y2
      unfold weigh_cases.l0
      repeat' first
      | (with_reducible exact ih0 _ _ _)
      | (with_reducible exact LeO.refl _)
      | (with_reducible exact LeO.none _)
      | (with_reducible refine LeO.ite ?_ ?_)
      | (with_reducible refine LeO.bind ?_ (fun _ => ?_))
      | exact ih0 _ _ _
      | exact LeO.none _
      | refine LeO.ite ?_ ?_
      | refine LeO.bind ?_ (fun _ => ?_)
theorem weigh_cases.mono : ∀ a0 k, LeO (weigh_cases.f k a0) (weigh_cases.f (k + 1) a0) := by
  intro a0 k
  have ih0 := weigh_cases.mono_l k
  unfold weigh_cases.f
  repeat' first
      | (with_reducible exact ih0 _ _ _)
      | (with_reducible exact LeO.refl _)
      | (with_reducible exact LeO.none _)
      | (with_reducible refine LeO.ite ?_ ?_)
      | (with_reducible refine LeO.bind ?_ (fun _ => ?_))
      | exact ih0 _ _ _
      | exact LeO.none _
      | refine LeO.ite ?_ ?_
      | refine LeO.bind ?_ (fun _ => ?_)
set_option maxHeartbeats 8000000 in
set_option maxRecDepth 100000 in
theorem weigh_cases.calls (k : Nat) (a0 : Int) (r : List (S35)) (w : World) (h : weigh_cases.f k a0 = some r) :
    Calls Try.prog 93 #[.int .i64 a0] w fun e w' => ∃ v0_ : Value, e = .returned (v0_) ∧ Kd.R k35 35 w' w.heap.size (fun _ => True) v0_ r ∧ Below w.heap.size w w' := by
  have hu35 := Try.underlying35
  have HB := Aside0.mk (Below.refl w.heap.size w)
  have H : (weigh_cases.l0 k ([] : List (S35)) a0 0) = some r := h
  clear h
  have H' := Aside0.mk H
  clear H
  go_enter Try.func93, Try.ntmps93
  go_wp2
  go_loopg [3, 6] k (fun kq v3 v6 w' => ∃ (x3_1 : List (S35)) (x6_1 : Int), v6 = .int .i64 x6_1 ∧ Aside0 (weigh_cases.l0 kq x3_1 a0 x6_1 = some r) ∧ Aside0 (kq ≤ k) ∧ Aside0 (Kd.R k35 35 w' w.heap.size (fun _ => True) v3 x3_1) ∧ Aside0 (Below w.heap.size w w'))
  case atStart => exact ⟨(([] : List (S35))), (0), (by first | rfl | (simp; done) | (simp [*]; done)), H', ⟨Nat.le_refl _⟩, ⟨by first | exact Kd.R_nil _ _ _ _ _ | exact Kd.N_nil _ _ _ _ _ | exact Kd.V_nil _ _ _ _ _ | exact Kd.Q_nil _ _ _ _ _ | exact Kd.S_nil _ _ _ _ _⟩, ⟨by repeat (first | (with_reducible first | exact HB.out | apply below_alloc | apply pw_below_drewN | apply below_drew1) | exact HB.out)⟩⟩
  case round =>
    clear H'
    obtain ⟨x3_1, x6_1, rfl, HA, HK1, HO_3, HB⟩ := hrel
    cases gk with
    | zero => exact absurd HA.out (by simp [weigh_cases.l0])
    | succ k1 =>
      have H := HA.out
      clear HA
      simp only [weigh_cases.l0] at H
      by_cases c2 : x6_1 < a0
      · rw [if_pos c2] at H
        have c2b0 : decide (x6_1 < a0) = true := decide_eq_true c2
        clear c2
        obtain ⟨y365, hy365⟩ : ∃ y_ : List (S35), y_ = (([(⟨x6_1, (-1)⟩ : S35), (⟨x6_1, 1⟩ : S35)] : List (S35))) := ⟨_, rfl⟩
        replace H : (if x3_1.length + y365.length < 8796093022208 then (weigh_cases.l0 k1 (x3_1 ++ y365) a0 (wrap64 (x6_1 + 1))) else (none)) = some r := by first | (rw [hy365]; with_reducible exact H) | (have H2_ := (Option.bind_some _ _).symm.trans H; rw [hy365]; with_reducible exact H2_) | (have H2_ := (Option.bind_some _ _).symm.trans H; with_reducible exact H2_) | with_reducible exact H | (rw [hy365]; exact H) | exact H
        have Ny365 := Aside0.mk hy365
        clear hy365
        by_cases c3 : x3_1.length + y365.length < 8796093022208
        · rw [if_pos c3] at H
          have LMc3 := Aside0.mk c3
          clear c3
          obtain ⟨y368, hy368⟩ : ∃ y_ : List (S35), y_ = (x3_1 ++ y365) := ⟨_, rfl⟩
          replace H : (weigh_cases.l0 k1 y368 a0 (wrap64 (x6_1 + 1))) = some r := by first | (rw [hy368]; with_reducible exact H) | (have H2_ := (Option.bind_some _ _).symm.trans H; rw [hy368]; with_reducible exact H2_) | (have H2_ := (Option.bind_some _ _).symm.trans H; with_reducible exact H2_) | with_reducible exact H | (rw [hy368]; exact H) | exact H
          have Ny368 := Aside0.mk hy368
          clear hy368
          have H' := Aside0.mk H
          clear H
          go_wp2_with (first | ((with_reducible refine gate_dst (N := 14) rfl ?_); refine Kd.R_lit k35 _ 35 ?hg (N := 14) ?hd (xs := ([(⟨x6_1, (-1)⟩ : S35), (⟨x6_1, 1⟩ : S35)] : List (S35))) (inner := [.int .i64 x6_1, .int .i64 (-1), .int .i64 x6_1, .int .i64 1]) (ok := fun _ => True) (okp := fun _ => True) ?hr ?hp (fun _ hk => hk) trivial (Below.refl _ _) (Nat.le_refl _) (by simp) ?_; (case hd => rfl); (case hg => rfl); (case hr => first | (go_simp; done) | (go_simp; rfl)); (case hp => exact (Reps.c2 (show Kd.M k35 _ _ _ (⟨x6_1, (-1)⟩ : S35) [.int .i64 x6_1, .int .i64 (-1)] from (k35_mkM _ _ _ (⟨x6_1, (-1)⟩ : S35) )) (Reps.c2 (show Kd.M k35 _ _ _ (⟨x6_1, 1⟩ : S35) [.int .i64 x6_1, .int .i64 1] from (k35_mkM _ _ _ (⟨x6_1, 1⟩ : S35) )) (Reps.none _ _)))); intro v366 w4 ho5 hb hg_ hnew_; clear hg_ hnew_; (first | rw [← Ny365.out] at ho5 | (simp only [Int.reduceToNat] at ho5; rw [← Ny365.out] at ho5)); have n0_ := Aside0.mk (Kd.R_elder' (by (with_reducible repeat (first | apply Kd.R_alloc | apply Kd.R_drewN | apply Kd.R_drew)); exact HO_3.out) (Kd.R_base ho5) hb); have n1_ := Aside0.mk (Kd.R_lower (Kd.R_new' ho5 (Kd.R_lt (by (with_reducible repeat (first | apply Kd.R_alloc | apply Kd.R_drewN | apply Kd.R_drew)); exact HO_3.out))) (below_size (by repeat (first | (with_reducible first | exact HB.out | apply below_alloc | apply pw_below_drewN | apply below_drew1) | exact HB.out)))); have n2_ := Aside0.mk (below_step (by repeat (first | (with_reducible first | exact HB.out | apply below_alloc | apply pw_below_drewN | apply below_drew1) | exact HB.out)) hb); clear HO_3; clear HB; have HO_3 := n0_; have HO367 := n1_; have HB := n2_; clear n0_ n1_ n2_; clear hb ho5; obtain ⟨Ao7, co7, eo7⟩ := Kd.R_slice HO367.out; subst eo7) | ((with_reducible refine gate_builtin (b := .append) (xs := #[.tmp 9, .tmp 14]) rfl ?_); at_builtin; refine Kd.R_append_rows k35 (w0 := w) w.heap.size rfl (.tmp 9) (.tmp 14) 71 35 (.agg #[(.int .i64 0), (.int .i64 0)]) 16 rfl Try.underlying71 info35 rfl (by decide) (by omega) u3 x3_1 y365 _ _ _ (fun k_ => some k_ ≠ (.slice Ao7 y365.length co7 : Value).ownBlock) (fun _ => False) rfl rfl ?aO ?aR (fun _ _ h => h) (fun _ h => h.elim) ?aF ?aB ?aS ?aL ?_; (case aR => repeat (first | exact (Kd.R_reads' HO367.out).2.2 | (with_reducible refine Kd.C_alloc ?_ _) | (with_reducible refine Kd.C_drewN ?_ _) | (with_reducible refine Kd.C_drew ?_))); (case aB => exact (by repeat (first | (with_reducible first | exact HB.out | apply below_alloc | apply pw_below_drewN | apply below_drew1) | exact HB.out))); (case aF => exact (fun k_ hk => Kd.fresh' (Kd.R_lt (by (with_reducible repeat (first | apply Kd.R_alloc | apply Kd.R_drewN | apply Kd.R_drew)); exact HO367.out)) k_ hk)); (case aO => exact (by (with_reducible repeat (first | apply Kd.R_alloc | apply Kd.R_drewN | apply Kd.R_drew)); exact Kd.R_mono HO_3.out (fun _ hk => hk.2))); (case aS => exact (below_size (by repeat (first | (with_reducible first | exact HB.out | apply below_alloc | apply pw_below_drewN | apply below_drew1) | exact HB.out)))); (case aL => have := LMc3.out; omega); intro v369 w6 ho hb hg hat; rw [← Ny368.out] at ho; have n0_ := Aside0.mk (Kd.R_after (ok := (fun _ => True)) (by (with_reducible repeat (first | apply Kd.R_alloc | apply Kd.R_drewN | apply Kd.R_drew)); exact HO367.out) hg hat); have n1_ := Aside0.mk (hb); have n2_ := Aside0.mk (ho); clear HO367; clear HB; clear HO_3; have HO367 := n0_; have HB := n1_; have HO370 := n2_; clear n0_ n1_ n2_; clear ho hb hg hat))
          go_roundg k1
          case measure => have := HK1.out; omega
          case rel => exact ⟨(y368), (wrap64 (x6_1 + 1)), (by first | rfl | (simp; done) | (simp [*]; done)), H', ⟨by have := HK1.out; omega⟩, ⟨by (with_reducible repeat (first | apply Kd.R_alloc | apply Kd.R_drewN | apply Kd.R_drew)); exact Kd.R_mono HO370.out (fun _ hk => trivial)⟩, ⟨by repeat (first | (with_reducible first | exact HB.out | apply below_alloc | apply pw_below_drewN | apply below_drew1) | exact HB.out)⟩⟩
        · rw [if_neg c3] at H
          exact absurd H (by simp)
      · rw [if_neg c2] at H
        have c2b0 : decide (x6_1 < a0) = false := decide_eq_false c2
        clear c2
        obtain rfl := Option.some.inj H
        go_wp2
        go_ret
        exact ⟨_, by first | rfl | (simp [errW_none, errW_some] <;> rfl) | (simp [*, errW_none, errW_some] <;> rfl), by (with_reducible repeat (first | apply Kd.R_alloc | apply Kd.R_drewN | apply Kd.R_drew)); exact HO_3.out, by repeat (first | (with_reducible first | exact HB.out | apply below_alloc | apply pw_below_drewN | apply below_drew1) | exact HB.out)⟩

-- GIVEN: function 55 (weigh_Possible): YtdbeochifofdoaaG55

end Go.Proofs.Ytdbeochifofdoaa.X
end

section
/-! weigh.Cases. -/
namespace Go.Proofs.Ytdbeochifofdoaa.X
open Go.RowKit Go.Proofs.YtdbeochifofdoaaW.PrintWords Go.Proofs.YtdbeochifofdoaaW.PrintLast Go.Proofs.YtdbeochifofdoaaW.PrintMore
set_option linter.unusedVariables false
set_option linter.unusedSimpArgs false
attribute [local go_sem high] eqA70

/-- All cases. -/
def casesL (lots : Int) : List S35 := (List.range lots.toNat).flatMap fun (n : Nat) => ([⟨(n : Int), -1⟩, ⟨(n : Int), 1⟩] : List S35)
def of3 (l : List Int) : S70 := ⟨l.getD 0 0, l.getD 1 0, l.getD 2 0⟩
def eq3 (a b : S70) : Bool := a.f0 == b.f0 && (a.f1 == b.f1 && a.f2 == b.f2)
def pickB (L : List S70) (g : S70) (c : S35) : Bool := eq3 (tim3 (L.getD c.f0.toNat z70) c.f1) g
def sideB (l : List Int) : Bool := l.any fun x => !(decide (-1 ≤ x) && decide (x ≤ 1))
def weigh_Cases.f (a0 : Int) (l1 : List S53) (l2 : List Int) : Option (List S35 × Bool × Int) :=
  if pErr a0 l1 = 0 then (if (l2.length != l1.length || sideB l2) = true then some ([], false, 1) else some ((casesL a0).filter (pickB (marksL a0 l1) (of3 l2)), isZ (of3 l2), 0)) else some ([], false, pErr a0 l1)
instance decS35 : DecidableEq S35 := fun a b => decidable_of_iff (a.f0 = b.f0 ∧ a.f1 = b.f1) (by cases a; cases b; simp)
set_option maxRecDepth 100000 in
theorem cases_is : ∀ n, n < 13 → weigh_cases.f 20 ((n + 1 : Nat) : Int) = some (casesL ((n + 1 : Nat) : Int)) := by decide +kernel
theorem eg102 (args : Array Value) (w : World) : (callFunc 102 args).run Try.prog w = .ok (.enter 102 args) w := enters_of Try.func102 (by kernel_rfl) rfl args w
theorem casesL_mem {lots : Int} {c : S35} (h : c ∈ casesL lots) : 0 ≤ c.f0 ∧ c.f0.toNat < lots.toNat := by
  unfold casesL at h
  rw [List.mem_flatMap] at h
  obtain ⟨n, hn, hc⟩ := h
  rw [List.mem_range] at hn
  simp only [List.mem_cons, List.not_mem_nil, or_false] at hc
  rcases hc with rfl | rfl <;> exact ⟨by simp, by simpa using hn⟩
theorem casesL_len (lots : Int) : (casesL lots).length = 2 * lots.toNat := by
  unfold casesL
  induction lots.toNat with
  | zero => rfl
  | succ n ih => rw [List.range_succ, List.flatMap_append, List.length_append, ih]; simp; omega
/-- The given answers, in a mark. -/
theorem splice3 (l : List Int) (h : l.length ≤ 3) : splice [Value.int .i64 0, .int .i64 0, .int .i64 0] 0 (l.map (Value.int .i64)) = [.int .i64 (of3 l).f0, .int .i64 (of3 l).f1, .int .i64 (of3 l).f2] := by
  match l, h with
  | [], _ => rfl
  | [a], _ => rfl
  | [a, b], _ => rfl
  | [a, b, c], _ => rfl
set_option maxHeartbeats 4000000 in
set_option maxRecDepth 100000 in
theorem weigh_Cases.calls (a0 : Int) (A1 : Option Addr) (c1 : Nat) (l1 : List S53) (A2 : Option Addr) (c2 : Nat) (l2 : List Int) (r1 : List S35) (r2 : Bool) (r3 : Int) (w : World) (hr1 : Kd.C k53 w A1 l1.length l1) (hc1 : l1.length ≤ c1) (hr2 : Kd.C (Kd.int .i64) w A2 l2.length l2) (hc2 : l2.length ≤ c2) (h : weigh_Cases.f a0 l1 l2 = some (r1, r2, r3)) :
    Calls Try.prog 64 #[.int .i64 a0, .slice A1 l1.length c1, .slice A2 l2.length c2] w fun e w' => ∃ v0_ : Value, e = .returned (.tuple #[v0_, .bool r2, .int .i64 r3]) ∧ Kd.R k35 35 w' w.heap.size (fun _ => True) v0_ r1 ∧ Below w.heap.size w w' := by
  have HR1 := Aside0.mk hr1
  have HR2 := Aside0.mk hr2
  have HC1 := Aside0.mk hc1
  unfold weigh_Cases.f at h
  obtain ⟨p, hpe⟩ : ∃ p, p = pErr a0 l1 := ⟨_, rfl⟩
  have HF := Aside0.mk (show weigh_Validate.f a0 l1 = some p by rw [hpe]; rfl)
  have HP := Aside0.mk hpe
  rw [← hpe] at h
  clear hpe hr1 hc1 hr2
  go_enter Try.func64, Try.ntmps64
  go_wp2_with fail
  refine (weigh_Validate.calls a0 A1 c1 l1 p _ HR1.out HC1.out HF.out).mono ?_
  rintro e w1 ⟨rfl, hb⟩
  have HB1 := Aside0.mk hb
  clear hb
  by_cases hz : p = 0
  rotate_left
  · rw [if_neg hz] at h
    simp only [Option.some.injEq, Prod.mk.injEq] at h
    obtain ⟨rfl, rfl, rfl⟩ := h
    have q1 : (p != 0) = true := by simpa using hz
    go_wp2
    go_ret3
    exact ⟨_, rfl, Kd.R_nil _ _ _ _ _, HB1.out⟩
  subst hz
  rw [if_pos rfl] at h
  have ok := pErr_ok HP.out.symm
  have few := ok.few
  have HMF := Aside0.mk (show weigh_marks.f a0 l1 = some (marksL a0 l1) by unfold weigh_marks.f; rw [if_pos HP.out.symm])
  have hlen : (marksL a0 l1).length = a0.toNat := marksL_len' a0 l1
  have hlo := ok.lo
  have hhi := ok.hi
  obtain ⟨n, rfl⟩ := Int.eq_ofNat_of_zero_le (show 0 ≤ a0 by omega)
  have hCF := cases_is (n - 1) (by omega)
  rw [show n - 1 + 1 = n by omega] at hCF
  have HCF := Aside0.mk hCF
  have hcm : ∀ c, c ∈ casesL (n : Int) → 0 ≤ c.f0 ∧ c.f0.toNat < (marksL (n : Int) l1).length := fun c hc => by have := casesL_mem hc; rw [hlen]; exact this
  have hcl : (casesL (n : Int)).length ≤ 26 := by rw [casesL_len]; omega
  generalize casesL (n : Int) = cs at *
  generalize marksL (n : Int) l1 = L at *
  have HCM := Aside0.mk hcm
  clear hcm hCF ok hlen
  by_cases he : l2.length = l1.length
  rotate_left
  · have q1 : ((l2.length : Int) != (l1.length : Int)) = true := bne_iff_ne.mpr (by omega)
    have q2 : (l2.length != l1.length || sideB l2) = true := by simp [he]
    rw [if_pos q2] at h
    simp only [Option.some.injEq, Prod.mk.injEq] at h
    obtain ⟨rfl, rfl, rfl⟩ := h
    go_wp2
    go_ret3
    exact ⟨_, rfl, Kd.R_nil _ _ _ _ _, HB1.out⟩
  have q1 : ((l2.length : Int) != (l1.length : Int)) = false := bne_eq_false_iff_eq.mpr (by omega)
  have sl3 : l2.length ≤ 3 := by omega
  have HE := Aside0.mk he
  clear he
  go_wp2_with fail
  refine (containsFunc97 102 #[] eg102 (fun x => !(decide (-1 ≤ x) && decide (x ≤ 1))) A2 c2 l2 _ ?hr ?hp).mono ?_
  case hr => exact Kd.C_below HR2.out HB1.out
  case hp =>
    intro W x _ hbW
    exact lit102 x W
  rintro e w2 ⟨rfl, hb2⟩
  have HB2 := Aside0.mk (HB1.out.trans (hb2.mono HB1.out.size))
  clear HB1 hb2
  rw [show (l2.any fun x => !(decide (-1 ≤ x) && decide (x ≤ 1))) = sideB l2 from rfl]
  cases hs : sideB l2 with
  | true =>
    have q2 : (l2.length != l1.length || sideB l2) = true := by simp [hs]
    rw [if_pos q2] at h
    simp only [Option.some.injEq, Prod.mk.injEq] at h
    obtain ⟨rfl, rfl, rfl⟩ := h
    go_wp2
    go_ret3
    exact ⟨_, rfl, Kd.R_nil _ _ _ _ _, HB2.out⟩
  | false =>
    have q2 : (l2.length != l1.length || sideB l2) = false := by simp [hs, HE.out]
    rw [q2, if_neg (by simp)] at h
    simp only [Option.some.injEq, Prod.mk.injEq] at h
    obtain ⟨h1, h2, rfl⟩ := h
    have H1 := Aside0.mk h1
    have H2 := Aside0.mk h2
    have hsl := slice70all
    clear h1 h2 q2 hs
    go_wp2_with (with_reducible refine wpList_copy_splice rfl (.tmp 30) (.tmp 31) 43 43 rfl 3 Try.underlying43 (by kernel_rfl) (some ⟨w2.heap.size, 0, none⟩) A2 3 3 l2.length c2 rfl rfl w2.heap.size 0 [.int .i64 0, .int .i64 0, .int .i64 0] 70 ?cg (l2.map (Value.int .i64)) ?cn ?cp ?cf ?c1 w.heap.size w ?cb ?cB ?_)
    case cg => exact blk_new _ _
    case cn => simp [Nat.min_def]; omega
    case cp =>
      intro hpos
      obtain ⟨ad, hA, hc⟩ := HR2.out.2.2 hpos
      refine ⟨ad, hA, fun j x hx => ?_⟩
      obtain ⟨c, _, hc2, hc3⟩ := hc j x hx
      obtain rfl : c = [Value.int .i64 x] := hc2
      have hw := hc3 0 _ rfl
      rw [show (Kd.int .i64).sz = 1 from rfl, Nat.mul_one, Nat.add_zero] at hw
      exact (World.cell?_alloc_lt _ _ _ (by have := World.block_lt_of_cell? _ _ hw; have := HB2.out.size; omega)).trans ((HB2.out.cell (World.block_lt_of_cell? w _ hw)).trans hw)
    case cf => rw [List.length_map]; simp; omega
    case c1 => intro v hv; obtain ⟨x, _, rfl⟩ := List.mem_map.1 hv; rfl
    case cb => exact below_alloc HB2.out _
    case cB => exact HB2.out.size
    intro w3 hh hb3
    rw [splice3 l2 sl3] at hh
    have BK3 := Aside0.mk hh.out
    have HB3 := Aside0.mk hb3
    have szg := HB2.out.size
    clear hh hb3 HB2
    obtain ⟨gB, hgB⟩ : ∃ g, g = w2.heap.size := ⟨_, rfl⟩
    rw [← hgB] at BK3 szg ⊢
    clear hgB
    go_wp2_with fail
    refine (weigh_marks.calls (n : Int) A1 c1 l1 L _ (Kd.C_below HR1.out HB3.out) HC1.out HMF.out).mono ?_
    rintro e w4 ⟨v, rfl, hO, hb⟩
    obtain ⟨A, c, rfl⟩ := Kd.R_slice hO
    obtain ⟨_, hLc, hC⟩ := Kd.R_reads' hO
    have HL4 := Aside0.mk hC
    have BK4 := Aside0.mk (blk_below BK3.out hb)
    have HB4 := Aside0.mk (HB3.out.trans (hb.mono HB3.out.size))
    clear BK3 HB3 hO hC hb
    go_wp2_with fail
    refine (weigh_cases.calls 20 (n : Int) cs _ HCF.out).mono ?_
    rintro e w5 ⟨v, rfl, hO, hb⟩
    obtain ⟨Ac, cc, rfl⟩ := Kd.R_slice hO
    obtain ⟨_, hcc, hC⟩ := Kd.R_reads' hO
    have HCS := Aside0.mk hC
    have HL5 := Aside0.mk (Kd.C_below HL4.out hb)
    have BK5 := Aside0.mk (blk_below BK4.out hb)
    have HB5 := Aside0.mk (HB4.out.trans (hb.mono HB4.out.size))
    clear BK4 HB4 HL4 hO hC hb
    go_wp2
    go_loopg [12, 39] cs.length (fun gg v12 s wr => ∃ (i : Nat) (xs : List S35), i ≤ cs.length ∧ cs.length - i ≤ gg ∧ s = .int .i64 i ∧ Aside0 (Below w5.heap.size w5 wr) ∧ Aside0 (Kd.R k35 35 wr w5.heap.size (fun _ => True) v12 xs) ∧ Aside0 (xs = (cs.take i).filter (pickB L (of3 l2))))
    case atStart => exact ⟨0, [], Nat.zero_le _, by omega, rfl, ⟨Below.refl _ _⟩, ⟨Kd.R_nil _ _ _ _ _⟩, ⟨by simp⟩⟩
    case round =>
      obtain ⟨i, xs, hi, hg, rfl, BR, HO, AX⟩ := hrel
      by_cases hil : i < cs.length
      · have hilz : (i : Int) < (cs.length : Int) := by omega
        obtain ⟨ad, e1, hx0, hx1⟩ := at_T35 HCS.out i (by omega) hilz
        cases e1
        replace hx0 := (BR.out.cell (World.block_lt_of_cell? w5 _ hx0)).trans hx0
        replace hx1 := (BR.out.cell (World.block_lt_of_cell? w5 _ hx1)).trans hx1
        simp only [Int.toNat_natCast] at hx0 hx1
        rw [show rd_T35 cs (i : Int) = cs.getD i z35 from rfl] at hx0 hx1
        have Bi : Aside0 (cs.take (i + 1) = cs.take i ++ [cs.getD i z35]) := ⟨by rw [List.take_succ_eq_append_getElem hil]; simp [List.getD_eq_getElem?_getD, List.getElem?_eq_getElem hil]⟩
        obtain ⟨m0, m1⟩ := HCM.out _ (mem_getD z35 cs i hil)
        generalize cs.getD i z35 = c0 at *
        obtain ⟨x0, x1⟩ := c0
        dsimp only at hx0 hx1 m0 m1
        obtain ⟨y0, rfl⟩ := Int.eq_ofNat_of_zero_le m0
        rw [Int.toNat_natCast] at m1
        have hicc : (i : Int) ≤ (cc : Int) := by omega
        go_wp2
        obtain ⟨adL, e2, hm0, hm1, hm2⟩ := at_T70 HL5.out (y0 : Int) (by omega) (by omega)
        cases e2
        simp only [Int.toNat_natCast] at hm0 hm1 hm2
        rw [show rd_T70 L (y0 : Int) = L.getD y0 z70 from rfl] at hm0 hm1 hm2
        replace hm0 := (BR.out.cell (World.block_lt_of_cell? w5 _ hm0)).trans hm0
        replace hm1 := (BR.out.cell (World.block_lt_of_cell? w5 _ hm1)).trans hm1
        replace hm2 := (BR.out.cell (World.block_lt_of_cell? w5 _ hm2)).trans hm2
        have BKr := blk_below BK5.out BR.out
        have hg0 := blk_cell BKr 0
        have hg1 := blk_cell BKr 1
        have hg2 := blk_cell BKr 2
        simp only [List.getElem?_toArray, List.getElem?_cons_zero, List.getElem?_cons_succ] at hg0 hg1 hg2
        have hb0 := Below.alloc (Below.refl wr.heap.size wr) (Nat.le_refl _) (.cells #[.int .i64 (y0 : Int), .int .i64 x1] 35)
        replace hm0 := (hb0.cell (World.block_lt_of_cell? wr _ hm0)).trans hm0
        replace hm1 := (hb0.cell (World.block_lt_of_cell? wr _ hm1)).trans hm1
        replace hm2 := (hb0.cell (World.block_lt_of_cell? wr _ hm2)).trans hm2
        replace hg0 := (hb0.cell (World.block_lt_of_cell? wr _ hg0)).trans hg0
        replace hg1 := (hb0.cell (World.block_lt_of_cell? wr _ hg1)).trans hg1
        replace hg2 := (hb0.cell (World.block_lt_of_cell? wr _ hg2)).trans hg2
        have BKc := blk_new wr (.cells #[.int .i64 (y0 : Int), .int .i64 x1] 35)
        have hc0 := blk_cell BKc 0
        have hc1 := blk_cell BKc 1
        simp only [List.getElem?_toArray, List.getElem?_cons_zero, List.getElem?_cons_succ] at hc0 hc1
        obtain ⟨gc, hgc⟩ : ∃ g, g = wr.heap.size := ⟨_, rfl⟩
        have HBa := Aside0.mk hb0
        have BKc' := Aside0.mk BKc
        rw [← hgc] at hc0 hc1 BKc' ⊢
        have HGC := Aside0.mk hgc
        clear hx0 hx1 hgc BKc hb0 BKr
        generalize hwn : wr.alloc (.cells #[.int .i64 (y0 : Int), .int .i64 x1] 35) = wn at *
        clear hwn
        obtain ⟨m, hm⟩ : ∃ m, m = L.getD y0 z70 := ⟨_, rfl⟩
        rw [← hm] at hm0 hm1 hm2
        have HM := Aside0.mk hm
        obtain ⟨t0, ht0⟩ : ∃ z, z = wrap64 (m.f0 * x1) := ⟨_, rfl⟩
        obtain ⟨t1, ht1⟩ : ∃ z, z = wrap64 (m.f1 * x1) := ⟨_, rfl⟩
        obtain ⟨t2, ht2⟩ : ∃ z, z = wrap64 (m.f2 * x1) := ⟨_, rfl⟩
        have HTM := Aside0.mk (show weigh_mark_times.f m.f0 m.f1 m.f2 x1 = some (t0, t1, t2) by rw [ht0, ht1, ht2]; rfl)
        have HPB := Aside0.mk (show pickB L (of3 l2) (⟨(y0 : Int), x1⟩ : S35) = (t0 == (of3 l2).f0 && (t1 == (of3 l2).f1 && t2 == (of3 l2).f2)) by
          unfold pickB tim3 eq3
          dsimp only
          rw [Int.toNat_natCast, ← hm, ht0, ht1, ht2])
        clear ht0 ht1 ht2 hm
        have SK : ∀ W, Below wn.heap.size wn W → (Below wn.heap.size wn W ∧ W.cell? ⟨gc, 0, none⟩ = some (.int .i64 (y0 : Int)) ∧ W.cell? ⟨gc, 1, none⟩ = some (.int .i64 x1) ∧ W.cell? (adL.add (y0 * 3)) = some (.int .i64 m.f0) ∧ W.cell? ⟨(adL.add (y0 * 3)).block, (adL.add (y0 * 3)).off + 1, none⟩ = some (.int .i64 m.f1) ∧ W.cell? ⟨(adL.add (y0 * 3)).block, (adL.add (y0 * 3)).off + 2, none⟩ = some (.int .i64 m.f2) ∧ W.cell? ⟨gB, 0, none⟩ = some (.int .i64 (of3 l2).f0) ∧ W.cell? ⟨gB, 1, none⟩ = some (.int .i64 (of3 l2).f1) ∧ W.cell? ⟨gB, 2, none⟩ = some (.int .i64 (of3 l2).f2)) := fun W hb => ⟨hb, (hb.cell (World.block_lt_of_cell? _ _ hc0)).trans hc0, (hb.cell (World.block_lt_of_cell? _ _ hc1)).trans hc1, (hb.cell (World.block_lt_of_cell? _ _ hm0)).trans hm0, (hb.cell (World.block_lt_of_cell? _ _ hm1)).trans hm1, (hb.cell (World.block_lt_of_cell? _ _ hm2)).trans hm2, (hb.cell (World.block_lt_of_cell? _ _ hg0)).trans hg0, (hb.cell (World.block_lt_of_cell? _ _ hg1)).trans hg1, (hb.cell (World.block_lt_of_cell? _ _ hg2)).trans hg2⟩
        have hS0 := SK _ (below_drew1 (Below.refl _ wn))
        have CT : Aside0 (∀ W, Below wn.heap.size wn W → Calls Try.prog 94 #[.agg #[.int .i64 m.f0, .int .i64 m.f1, .int .i64 m.f2], .int .i64 x1] W fun e w' => e = .returned (.agg #[.int .i64 t0, .int .i64 t1, .int .i64 t2]) ∧ Below W.heap.size W w' ∧ Below wn.heap.size wn w') :=
          ⟨fun W hW => (weigh_mark_times.calls m.f0 m.f1 m.f2 x1 t0 t1 t2 W HTM.out).mono (by rintro e w' ⟨rfl, hb⟩; exact ⟨rfl, hb, hW.trans (hb.mono hW.size)⟩)⟩
        have y0l : ((y0 : Int) < (L.length : Int)) := by omega
        have y0g : (0 : Int) ≤ (y0 : Int) := by omega
        have y0c : ((y0 : Int) ≤ (c : Int)) := by omega
        go_region_held3 (fun W => Below wn.heap.size wn W ∧ W.cell? ⟨gc, 0, none⟩ = some (.int .i64 (y0 : Int)) ∧ W.cell? ⟨gc, 1, none⟩ = some (.int .i64 x1) ∧ W.cell? (adL.add (y0 * 3)) = some (.int .i64 m.f0) ∧ W.cell? ⟨(adL.add (y0 * 3)).block, (adL.add (y0 * 3)).off + 1, none⟩ = some (.int .i64 m.f1) ∧ W.cell? ⟨(adL.add (y0 * 3)).block, (adL.add (y0 * 3)).off + 2, none⟩ = some (.int .i64 m.f2) ∧ W.cell? ⟨gB, 0, none⟩ = some (.int .i64 (of3 l2).f0) ∧ W.cell? ⟨gB, 1, none⟩ = some (.int .i64 (of3 l2).f1) ∧ W.cell? ⟨gB, 2, none⟩ = some (.int .i64 (of3 l2).f2)) ((first | with_reducible assumption | exact hS0 | exact SK _ hBT | fail)) (first | (go_at_call 94; with_reducible refine (CT.out _ ?_).mono ?_; (first | with_reducible assumption | exact hS0.1 | (apply And.left; with_reducible assumption)); rintro e w6 ⟨rfl, hB6, hBT⟩))
        obtain ⟨_, k0, k1, _, _, _, _, _, _⟩ := SK _ hBT
        have HBn := Aside0.mk (BR.out.trans (HBa.out.mono BR.out.size))
        have HB6 := Aside0.mk (HBn.out.trans (hBT.mono HBn.out.size))
        have HO6 := Aside0.mk (Kd.R_below (Kd.R_below HO.out HBa.out) hBT)
        clear hS0 SK CT hBT hB6 HBa
        have s6 := HB6.out.size
        have hxl : xs.length ≤ 26 := by rw [AX.out]; exact Nat.le_trans (List.length_filter_le _ _) (by rw [List.length_take]; omega)
        generalize hE : (t0 == (of3 l2).f0 && (t1 == (of3 l2).f1 && t2 == (of3 l2).f2)) = be at *
        clear hE hg0 hg1 hg2 hm0 hm1 hm2 hc0 hc1
        cases be with
        | true =>
          obtain ⟨Av, cv, rfl⟩ := Kd.R_slice HO6.out
          go_wp2_with (at_builtin; refine Kd.R_append k35 (w0 := w5) w5.heap.size rfl (.tmp 53) (.tmp 55) 71 35 (.agg #[(.int .i64 0), (.int .i64 0)]) 16 rfl Try.underlying71 info35 rfl (by decide) (by omega) (.slice Av xs.length cv) xs (⟨(y0 : Int), x1⟩ : S35) [.int .i64 (y0 : Int), .int .i64 x1] (fun _ => True) (fun _ => False) rfl rfl ?aP ?aK ?aF ?aO ?aB ?aS ?aL ?_)
          case aP => exact k35_mkM _ _ _ (⟨(y0 : Int), x1⟩ : S35)
          case aK => exact fun _ h => h.elim
          case aF => exact fun _ _ => trivial
          case aO => exact HO6.out
          case aB => exact HB6.out
          case aS => exact HB6.out.size
          case aL => omega
          intro v1 w7 hN hB7 _ _
          have HN := Aside0.mk hN
          have HB7 := Aside0.mk hB7
          clear hN hB7
          go_wp2
          go_roundg (cs.length - (i + 1))
          case measure => omega
          case rel =>
            refine ⟨i + 1, _, by omega, by omega, by go_num, HB7, HN, ⟨?_⟩⟩
            rw [Bi.out, List.filter_append, ← AX.out]
            simp [HPB.out]
        | false =>
          go_wp2
          go_roundg (cs.length - (i + 1))
          case measure => omega
          case rel =>
            refine ⟨i + 1, xs, by omega, by omega, by go_num, HB6, HO6, ⟨?_⟩⟩
            rw [Bi.out, List.filter_append, ← AX.out]
            simp [HPB.out]
      · have hilz : ¬ (i : Int) < (cs.length : Int) := by omega
        have hil' : cs.length ≤ i := by omega
        have BKr := blk_below BK5.out BR.out
        have hg0 := blk_cell BKr 0
        have hg1 := blk_cell BKr 1
        have hg2 := blk_cell BKr 2
        simp only [List.getElem?_toArray, List.getElem?_cons_zero, List.getElem?_cons_succ] at hg0 hg1 hg2
        clear BKr
        go_wp2
        go_quiet (fail)
        go_wp2
        go_ret3
        refine ⟨_, by rw [← H2.out]; rfl, ?_, pw_below_drewN (HB5.out.trans (BR.out.mono HB5.out.size)) _⟩
        have hR := Kd.R_drewN (Kd.R_lower HO.out HB5.out.size) nq
        rw [AX.out, List.take_of_length_le hil', H1.out] at hR
        exact hR
end Go.Proofs.Ytdbeochifofdoaa.X
end

section
/-! weigh.Possible: a set of marks, a map keyed by arrays. -/
namespace Go.Proofs.Ytdbeochifofdoaa.X
open Go.ChangeMaps Go.RowKit Go.Proofs.YtdbeochifofdoaaW.PrintWords Go.Proofs.YtdbeochifofdoaaW.PrintLast Go.Proofs.YtdbeochifofdoaaW.PrintMore
set_option linter.unusedVariables false
set_option linter.unusedSimpArgs false

instance decS70 : DecidableEq S70 := fun a b => decidable_of_iff (a.f0 = b.f0 ∧ a.f1 = b.f1 ∧ a.f2 = b.f2) (by cases a; cases b; simp)
def aggV (m : S70) : Value := .agg #[.int .i64 m.f0, .int .i64 m.f1, .int .i64 m.f2]
def ok3 (m : S70) : Prop := (Lit.int .i64 m.f0).wf = true ∧ (Lit.int .i64 m.f1).wf = true ∧ (Lit.int .i64 m.f2).wf = true
def putM (ks : List S70) (m : S70) : List S70 := if m ∈ ks then ks else ks ++ [m]
def foundL (L : List S70) (cs : List S35) : List S70 := cs.foldl (fun ks c => putM ks (tim3 (L.getD c.f0.toNat z70) c.f1)) [z70]
def weigh_Possible.f (a0 : Int) (l1 : List S53) : Option (Int × Int) := if pErr a0 l1 = 0 then some (((foundL (marksL a0 l1) (casesL a0)).length : Int), 0) else some (0, pErr a0 l1)
theorem aggV_inj {a b : S70} (h : aggV a = aggV b) : a = b := by
  cases a; cases b
  simp [aggV] at h
  simp [h]
theorem p_underlying97 : Try.prog.underlying 97 = some (.map 70 4) := by kernel_rfl
theorem p_laidOut : laidOutB Try.prog = true := by kernel_rfl
theorem law70 : WideMaps.KeyLaw Try.prog 70 := deep_law_laid p_laidOut (m := 5) (by omega) (of_decide_eq_true (by kernel_rfl)) (by kernel_rfl) (by kernel_rfl)
theorem key70 {m : S70} (h : ok3 m) : ∃ l, keyOf Try.prog 70 (aggV m) = some l := by
  obtain ⟨h0, h1, h2⟩ := h
  have hc : Try.prog.cellsOf 70 = 3 := by kernel_rfl
  have hc3 : Try.prog.cellsOf 3 = 1 := by kernel_rfl
  have hk : Try.prog.keyType 70 = true := by kernel_rfl
  have hf : Value.formed Try.prog 70 (aggV m) = true := by simp [Value.formed, aggV, Try.underlying70, hc]
  obtain ⟨d, hd⟩ : ∃ d, Try.prog.types.size = d + 1 := Nat.exists_eq_succ_of_ne_zero (Nat.ne_of_gt (of_decide_eq_true (by kernel_rfl)))
  have h3 : ∀ x, (Lit.int .i64 x).wf = true → Try.prog.keyLits (d + 1) 3 [.int .i64 x] = some [.int .i64 x] := by
    intro x h
    unfold Program.keyLits
    rw [Try.underlying3]
    simp [h]
  have h70 : Try.prog.keyLits (d + 1 + 1) 70 [.int .i64 m.f0, .int .i64 m.f1, .int .i64 m.f2] = some [.int .i64 m.f0, .int .i64 m.f1, .int .i64 m.f2] := by
    unfold Program.keyLits
    rw [Try.underlying70]
    dsimp only
    rw [hc, hc3, if_pos (by rfl), show List.range 3 = [0, 1, 2] from rfl]
    simp [h3, h0, h1, h2]
  unfold keyOf
  rw [Try.underlying70]
  dsimp only
  rw [hk, hf, if_pos (by rfl), hd, show (aggV m).cells.toList = [.int .i64 m.f0, .int .i64 m.f1, .int .i64 m.f2] from rfl, h70]
  exact ⟨_, rfl⟩
/-- A block that is a set of marks. -/
def OwnM (w : World) (g : Nat) (ks : List S70) : Prop := ∃ es clk, w.heap[g]? = some (.map es clk) ∧ es.toList.map (·.key) = ks.map aggV ∧ ∀ m ∈ ks, ok3 m
theorem OwnM.below {w w' : World} {g : Nat} {ks : List S70} (h : OwnM w g ks) (hb : Below w.heap.size w w') : OwnM w' g ks := by
  obtain ⟨es, clk, h1, h2, h3⟩ := h
  refine ⟨es, clk, ?_, h2, h3⟩
  have hlt : g < w.heap.size := by
    rcases Nat.lt_or_ge g w.heap.size with h | h
    · exact h
    · rw [Array.getElem?_eq_none h] at h1; cases h1
  exact (hb.block g hlt).trans h1
theorem OwnM.lt {w : World} {g : Nat} {ks : List S70} (h : OwnM w g ks) : g < w.heap.size := by
  obtain ⟨es, clk, h1, _⟩ := h
  rcases Nat.lt_or_ge g w.heap.size with h | h
  · exact h
  · rw [Array.getElem?_eq_none h] at h1; cases h1
theorem OwnM.len {w : World} {g : Nat} {ks : List S70} (h : OwnM w g ks) : ∃ es clk, w.heap[g]? = some (.map es clk) ∧ es.size = ks.length := by
  obtain ⟨es, clk, h1, h2, _⟩ := h
  refine ⟨es, clk, h1, ?_⟩
  have := congrArg List.length h2
  simpa using this
/-- A mark is put into the set. -/
theorem OwnM.put {w : World} {g : Nat} {ks : List S70} (h : OwnM w g ks) {m : S70} (hm : ok3 m) :
    ∃ w', (Instr.mapUpdate 97 (.map (some g)) (aggV m) (.bool true)).run Try.prog w = .ok () w' ∧ OwnM w' g (putM ks m) ∧ w.grownBy w' (some g) := by
  obtain ⟨es, clk, hb, hk, hok⟩ := h
  obtain ⟨kl, hkey⟩ := key70 hm
  have hall : ∀ e ∈ es.toList, ∃ l, keyOf Try.prog 70 e.key = some l := by
    intro e he
    have h1 : e.key ∈ ks.map aggV := by rw [← hk]; exact List.mem_map.2 ⟨e, he, rfl⟩
    obtain ⟨x, hx, hx2⟩ := List.mem_map.1 h1
    rw [← hx2]
    exact key70 (hok x hx)
  have hch := law70.check w false hkey
  have hgb : ∀ o, w.grownBy (setBlock w g o) (some g) := fun o => ⟨rfl, rfl, rfl, by simp [setBlock], fun i _ hi => heap_setBlock_other hb _ (fun e => hi (by rw [e]))⟩
  rcases law70.find w hkey es.toList hall with ⟨hf, hne⟩ | ⟨j, e, hf, hj, hek⟩
  · have hnm : m ∉ ks := by
      intro hmem
      have h1 : aggV m ∈ es.toList.map (·.key) := by rw [hk]; exact List.mem_map.2 ⟨m, hmem, rfl⟩
      obtain ⟨e, he, he2⟩ := List.mem_map.1 h1
      exact hne e he he2
    refine ⟨setBlock w g (.map (es.push { key := aggV m, val := .bool true, born := clk }) (clk + 1)), ?_, ⟨_, _, heap_setBlock_same hb _, ?_, ?_⟩, hgb _⟩
    · simp [Instr.mapUpdate, run_underlying p_underlying97, MapKept.run_getObj_map hb, hch, hf, MapKept.run_setObj_map _ hb, Result.andThen, setBlock]
    · simp [putM, hnm, hk]
    · intro x hx
      simp only [putM, hnm, if_false, List.mem_append, List.mem_singleton] at hx
      rcases hx with hx | rfl
      · exact hok x hx
      · exact hm
  · have hmem : m ∈ ks := by
      have h1 : aggV m ∈ ks.map aggV := by rw [← hk, ← hek]; exact List.mem_map.2 ⟨e, List.mem_of_getElem? hj, rfl⟩
      obtain ⟨x, hx, hx2⟩ := List.mem_map.1 h1
      rw [← aggV_inj hx2]
      exact hx
    have hje : es[j]? = some e := by rw [← Array.getElem?_toList]; exact hj
    refine ⟨setBlock w g (.map (es.modify j fun e => { e with key := aggV m, val := .bool true }) clk), ?_, ⟨_, _, heap_setBlock_same hb _, ?_, ?_⟩, hgb _⟩
    · simp [Instr.mapUpdate, run_underlying p_underlying97, MapKept.run_getObj_map hb, hch, hf, MapKept.run_setObj_map _ hb, Result.andThen, setBlock, hje, hek, law70.stays w hkey]
    · simp only [putM, hmem, if_true, ← hk]
      apply List.ext_getElem?
      intro i
      simp only [List.getElem?_map, Array.getElem?_toList, Array.getElem?_modify]
      by_cases hij : j = i
      · subst hij
        simp [hje, hek]
      · simp [hij]
    · simpa [putM, hmem] using hok
theorem OwnM.made (w : World) : OwnM (w.alloc (.map #[] 0)) w.heap.size [] := ⟨#[], 0, (MapKept.heap_alloc w _).1, rfl, fun m hm => by cases hm⟩
theorem grown_of_below {w w' : World} (hb : Below w.heap.size w w') (row : Option Nat) : w.grownBy w' row := ⟨hb.os, hb.tape, hb.output, hb.size, fun k hk _ => hb.block k hk⟩
theorem grown_cell {w w' : World} {g : Nat} (h : w.grownBy w' (some g)) {p : Addr} {v : Value} (hc : w.cell? p = some v) (hne : p.block ≠ g) : w'.cell? p = some v :=
  (World.cell?_of_block (w := w) (h.block p.block (World.block_lt_of_cell? w _ hc) (fun e => hne (by injection e)))).trans hc
theorem addr_block (a : Addr) (k : Nat) : (a.add k).block = a.block := by unfold Addr.add; split <;> rfl
theorem tim3_ok (m : S70) (k : Int) : ok3 (tim3 m k) := by
  have : ∀ x : Int, (Lit.int .i64 (wrap64 x)).wf = true := fun x => wrap64_wf x
  exact ⟨this _, this _, this _⟩
theorem foundL_snoc (L : List S70) (cs : List S35) (c : S35) : foundL L (cs ++ [c]) = putM (foundL L cs) (tim3 (L.getD c.f0.toNat z70) c.f1) := by
  unfold foundL
  rw [List.foldl_append]
  rfl
def weigh_Possible.T : Bool × List (List Nat × List Nat) := (true, [([], []), ([], []), ([], []), ([2], [2]), ([1, 3], [1, 3]), ([4], [4]), ([], []), ([6], [6]), ([5, 7], [5, 7]), ([0, 8, 8, 0, 1, 2, 3, 4, 5, 6, 7, 8], [0, 8])])
def weigh_Possible.B : List Nat := [0, 0, 0, 4, 14, 30, 0, 64, 254, 511]
theorem weigh_Possible.tab : rtab .any (opsOf Try.f55 9) = weigh_Possible.T := by kernel_rfl
theorem weigh_Possible.bits : waitsOk weigh_Possible.T.2 weigh_Possible.B = true := by kernel_rfl
set_option maxHeartbeats 4000000 in
set_option maxRecDepth 100000 in
theorem weigh_Possible.calls (a0 : Int) (A1 : Option Addr) (c1 : Nat) (l1 : List S53) (r1 r2 : Int) (w : World) (hr1 : Kd.C k53 w A1 l1.length l1) (hc1 : l1.length ≤ c1) (h : weigh_Possible.f a0 l1 = some (r1, r2)) :
    Calls Try.prog 55 #[.int .i64 a0, .slice A1 l1.length c1] w fun e w' => e = .returned (.tuple #[.int .i64 r1, .int .i64 r2]) ∧ Below w.heap.size w w' := by
  have HR1 := Aside0.mk hr1
  have HC1 := Aside0.mk hc1
  unfold weigh_Possible.f at h
  obtain ⟨p, hpe⟩ : ∃ p, p = pErr a0 l1 := ⟨_, rfl⟩
  have HF := Aside0.mk (show weigh_Validate.f a0 l1 = some p by rw [hpe]; rfl)
  have HP := Aside0.mk hpe
  rw [← hpe] at h
  clear hpe hr1 hc1
  go_enter Try.func55, Try.ntmps55
  go_wp2_with fail
  refine (weigh_Validate.calls a0 A1 c1 l1 p _ HR1.out HC1.out HF.out).mono ?_
  rintro e w1 ⟨rfl, hb⟩
  have HB1 := Aside0.mk hb
  clear hb
  by_cases hz : p = 0
  rotate_left
  · rw [if_neg hz] at h
    simp only [Option.some.injEq, Prod.mk.injEq] at h
    obtain ⟨rfl, rfl⟩ := h
    have q1 : (p != 0) = true := by simpa using hz
    go_wp2
    go_ret2
    exact ⟨rfl, HB1.out⟩
  subst hz
  rw [if_pos rfl] at h
  have ok := pErr_ok HP.out.symm
  have HMF := Aside0.mk (show weigh_marks.f a0 l1 = some (marksL a0 l1) by unfold weigh_marks.f; rw [if_pos HP.out.symm])
  have hlen : (marksL a0 l1).length = a0.toNat := marksL_len' a0 l1
  have hlo := ok.lo
  have hhi := ok.hi
  obtain ⟨n, rfl⟩ := Int.eq_ofNat_of_zero_le (show 0 ≤ a0 by omega)
  have hCF := cases_is (n - 1) (by omega)
  rw [show n - 1 + 1 = n by omega] at hCF
  have HCF := Aside0.mk hCF
  have hcm : ∀ c, c ∈ casesL (n : Int) → 0 ≤ c.f0 ∧ c.f0.toNat < (marksL (n : Int) l1).length := fun c hc => by have := casesL_mem hc; rw [hlen]; exact this
  have hcl : (casesL (n : Int)).length ≤ 26 := by rw [casesL_len]; omega
  generalize casesL (n : Int) = cs at *
  generalize marksL (n : Int) l1 = L at *
  simp only [Option.some.injEq, Prod.mk.injEq] at h
  obtain ⟨h1, rfl⟩ := h
  have H1 := Aside0.mk h1
  have HCM := Aside0.mk hcm
  clear hcm hCF ok hlen h1
  go_wp2_with fail
  refine (weigh_marks.calls (n : Int) A1 c1 l1 L _ (Kd.C_below HR1.out HB1.out) HC1.out HMF.out).mono ?_
  rintro e w4 ⟨v, rfl, hO, hb⟩
  obtain ⟨A, c, rfl⟩ := Kd.R_slice hO
  obtain ⟨_, hLc, hC⟩ := Kd.R_reads' hO
  have HLT := Aside0.mk (Kd.R_lt hO)
  have HL4 := Aside0.mk hC
  have HB4 := Aside0.mk (HB1.out.trans (hb.mono HB1.out.size))
  have sz4 := HB4.out.size
  clear HB1 hO hC hb
  have hmm := @run_makeMap Try.prog
  have hal := Below.alloc (Below.refl w4.heap.size w4) (Nat.le_refl _) (.map #[] 0)
  obtain ⟨w5, hrun, hOw, hgr⟩ := (OwnM.made w4).put (m := z70) ⟨rfl, rfl, rfl⟩
  have hrun' : (Instr.mapUpdate 97 (.map (some w4.heap.size)) (.agg #[.int .i64 0, .int .i64 0, .int .i64 0]) (.bool true)).run Try.prog (w4.alloc (.map #[] 0)) = .ok () w5 := hrun
  have HO5 := Aside0.mk (show OwnM w5 w4.heap.size [z70] from hOw)
  have HB5 := Aside0.mk (((HB4.out.trans (hal.mono sz4))).grown hgr (by simp; omega) (fun k hk => by injection hk with hk; omega))
  have HC5 := Aside0.mk (show Kd.C k70 w5 A L.length L from Kd.C_below HL4.out (hal.grown hgr (by simp) (fun k hk => by injection hk with hk; omega)))
  clear hrun hOw hgr hal HB4 HL4
  obtain ⟨gM, hgM⟩ : ∃ g, g = w4.heap.size := ⟨_, rfl⟩
  go_wp2_with fail
  refine (weigh_cases.calls 20 (n : Int) cs _ HCF.out).mono ?_
  rintro e w6 ⟨v, rfl, hO, hb⟩
  obtain ⟨Ac, cc, rfl⟩ := Kd.R_slice hO
  obtain ⟨_, hcc, hC⟩ := Kd.R_reads' hO
  have HCS := Aside0.mk hC
  have HBS := Aside0.mk (Kd.R_base hO)
  have HL6 := Aside0.mk (Kd.C_below HC5.out hb)
  have HO6 := Aside0.mk (HO5.out.below hb)
  have HB6 := Aside0.mk (HB5.out.trans (hb.mono HB5.out.size))
  have lM := HO5.out.lt
  rw [← hgM] at HO6 HLT sz4 lM ⊢
  clear HB5 HC5 HO5 hO hC hb hrun' hmm hgM
  go_wp2
  go_loopg [26] cs.length (fun gg s wr => ∃ i : Nat, i ≤ cs.length ∧ cs.length - i ≤ gg ∧ s = .int .i64 i ∧ Aside0 (w6.grownBy wr (some gM)) ∧ Aside0 (OwnM wr gM (foundL L (cs.take i))))
  case atStart => exact ⟨0, Nat.zero_le _, by omega, rfl, ⟨grown_of_below (Below.refl _ _) _⟩, HO6⟩
  case round =>
    obtain ⟨i, hi, hg, rfl, BR, HO⟩ := hrel
    by_cases hil : i < cs.length
    · have hilz : (i : Int) < (cs.length : Int) := by omega
      obtain ⟨ad, e1, hx0, hx1⟩ := at_T35 HCS.out i (by omega) hilz
      cases e1
      have hbs := HBS.out ad.block rfl
      replace hx0 := grown_cell BR.out hx0 (by rw [addr_block]; omega)
      replace hx1 := grown_cell BR.out hx1 (by show (ad.add _).block ≠ gM; rw [addr_block]; omega)
      simp only [Int.toNat_natCast] at hx0 hx1
      rw [show rd_T35 cs (i : Int) = cs.getD i z35 from rfl] at hx0 hx1
      have Bi : Aside0 (cs.take (i + 1) = cs.take i ++ [cs.getD i z35]) := ⟨by rw [List.take_succ_eq_append_getElem hil]; simp [List.getD_eq_getElem?_getD, List.getElem?_eq_getElem hil]⟩
      obtain ⟨m0, m1⟩ := HCM.out _ (mem_getD z35 cs i hil)
      generalize cs.getD i z35 = c0 at *
      obtain ⟨x0, x1⟩ := c0
      dsimp only at hx0 hx1 m0 m1
      obtain ⟨y0, rfl⟩ := Int.eq_ofNat_of_zero_le m0
      rw [Int.toNat_natCast] at m1
      have hicc : (i : Int) ≤ (cc : Int) := by omega
      go_wp2
      obtain ⟨adL, e2, hm0, hm1, hm2⟩ := at_T70 HL6.out (y0 : Int) (by omega) (by omega)
      cases e2
      have hlb := HLT.out adL.block rfl
      simp only [Int.toNat_natCast] at hm0 hm1 hm2
      rw [show rd_T70 L (y0 : Int) = L.getD y0 z70 from rfl] at hm0 hm1 hm2
      have nl0 : (adL.add (y0 * 3)).block ≠ gM := by rw [addr_block]; omega
      replace hm0 := grown_cell BR.out hm0 nl0
      replace hm1 := grown_cell BR.out hm1 nl0
      replace hm2 := grown_cell BR.out hm2 nl0
      have hb0 := Below.alloc (Below.refl wr.heap.size wr) (Nat.le_refl _) (.cells #[.int .i64 (y0 : Int), .int .i64 x1] 35)
      replace hm0 := (hb0.cell (World.block_lt_of_cell? wr _ hm0)).trans hm0
      replace hm1 := (hb0.cell (World.block_lt_of_cell? wr _ hm1)).trans hm1
      replace hm2 := (hb0.cell (World.block_lt_of_cell? wr _ hm2)).trans hm2
      have BKc := blk_new wr (.cells #[.int .i64 (y0 : Int), .int .i64 x1] 35)
      have hc0 := blk_cell BKc 0
      have hc1 := blk_cell BKc 1
      simp only [List.getElem?_toArray, List.getElem?_cons_zero, List.getElem?_cons_succ] at hc0 hc1
      have HOa := Aside0.mk (HO.out.below hb0)
      have HGa := Aside0.mk (World.grownBy.trans BR.out (grown_of_below hb0 (some gM)))
      have hMr := HO.out.lt
      obtain ⟨gc, hgc⟩ : ∃ g, g = wr.heap.size := ⟨_, rfl⟩
      rw [← hgc] at hc0 hc1 hMr ⊢
      clear hx0 hx1 hgc BKc hb0 HO BR
      generalize hwn : wr.alloc (.cells #[.int .i64 (y0 : Int), .int .i64 x1] 35) = wn at *
      clear hwn
      obtain ⟨m, hm⟩ : ∃ m, m = L.getD y0 z70 := ⟨_, rfl⟩
      rw [← hm] at hm0 hm1 hm2
      obtain ⟨t, ht⟩ : ∃ t, t = tim3 m x1 := ⟨_, rfl⟩
      have HTM := Aside0.mk (show weigh_mark_times.f m.f0 m.f1 m.f2 x1 = some (t.f0, t.f1, t.f2) by rw [ht]; rfl)
      have HTO := Aside0.mk (show ok3 t by rw [ht]; exact tim3_ok m x1)
      have HT := Aside0.mk (show t = tim3 (L.getD y0 z70) x1 by rw [ht, hm])
      clear ht hm
      have y0l : ((y0 : Int) < (L.length : Int)) := by omega
      have y0g : (0 : Int) ≤ (y0 : Int) := by omega
      have y0c : ((y0 : Int) ≤ (c : Int)) := by omega
      have HOd := Aside0.mk (HOa.out.below (below_drew1 (Below.refl _ wn)))
      have HGd := Aside0.mk (World.grownBy.trans HGa.out (grown_of_below (below_drew1 (Below.refl wn.heap.size wn)) (some gM)))
      refine start_ (n := 10) (S := fun W => W.cell? ⟨gc, 0, none⟩ = some (.int .i64 (y0 : Int)) ∧ W.cell? ⟨gc, 1, none⟩ = some (.int .i64 x1) ∧ W.cell? (adL.add (y0 * 3)) = some (.int .i64 m.f0) ∧ W.cell? ⟨(adL.add (y0 * 3)).block, (adL.add (y0 * 3)).off + 1, none⟩ = some (.int .i64 m.f1) ∧ W.cell? ⟨(adL.add (y0 * 3)).block, (adL.add (y0 * 3)).off + 2, none⟩ = some (.int .i64 m.f2)) (ds := []) #[false, false, false, false, false, false, false, false, false, false] (by kernel_rfl) rfl rfl ⟨hc0, hc1, hm0, hm1, hm2⟩ (fun hHeld => ?_)
      refine with_tabW weigh_Possible.tab weigh_Possible.bits (fun HT_ HW_ => ?_)
      clear HOa HGa hc0 hc1 hm0 hm1 hm2
      generalize wn.drew = W at HOd HGd hHeld ⊢
      refine pure_ (i := 0) (N := some 30) (v := ?_) (a' := ?_) #[true, false, false, false, false, false, false, false, false, false] rfl rfl (any_of HT_.out (by kernel_rfl)) (fun _ _ _ h => h) (Or.inl ⟨by rfl, ?_⟩) ?_ ?_
      rotate_left
      · intro w'
        go_simp
        with_reducible rfl
      rotate_left
      · simp only [Act.put, List.setIfInBounds_toArray, List.set_cons_zero, List.set_cons_succ, i64_w, i32_w]
        rfl
      refine pure_ (i := 1) (N := some 31) (v := ?_) (a' := ?_) #[true, true, false, false, false, false, false, false, false, false] rfl rfl (any_of HT_.out (by kernel_rfl)) (fun _ _ _ h => h) (Or.inl ⟨by rfl, ?_⟩) ?_ ?_
      rotate_left
      · intro w'
        go_simp
        with_reducible rfl
      rotate_left
      · simp only [Act.put, List.setIfInBounds_toArray, List.set_cons_zero, List.set_cons_succ, i64_w, i32_w]
        rfl
      refine pure_ (i := 2) (N := some 32) (v := ?_) (a' := ?_) #[true, true, true, false, false, false, false, false, false, false] rfl rfl (any_of HT_.out (by kernel_rfl)) (fun _ _ _ h => h) (Or.inl ⟨by rfl, ?_⟩) ?_ ?_
      rotate_left
      · intro w'
        go_simp
        with_reducible rfl
      rotate_left
      · simp only [Act.put, List.setIfInBounds_toArray, List.set_cons_zero, List.set_cons_succ, i64_w, i32_w]
        rfl
      refine pure_ (i := 6) (N := some 36) (v := ?_) (a' := ?_) #[true, true, true, false, false, false, true, false, false, false] rfl rfl (any_of HT_.out (by kernel_rfl)) (fun _ _ _ h => h) (Or.inl ⟨by rfl, ?_⟩) ?_ ?_
      rotate_left
      · intro w'
        go_simp
        with_reducible rfl
      rotate_left
      · simp only [Act.put, List.setIfInBounds_toArray, List.set_cons_zero, List.set_cons_succ, i64_w, i32_w]
        rfl
      refine take_ (i := 3) (N := some 33) (v := ?_) (a' := ?_) #[true, true, true, true, false, false, true, false, false, false] rfl rfl (take_ofW HT_.out HW_.out (by kernel_rfl)) (fun _ _ _ h => h) (Or.inl ⟨by rfl, ?_⟩) hHeld ?_ ?_
      rotate_left
      · rintro w' ⟨s0, s1, s2, s3, s4⟩
        go_simp
        with_reducible rfl
      rotate_left
      · simp only [Act.put, List.setIfInBounds_toArray, List.set_cons_zero, List.set_cons_succ, i64_w, i32_w]
        rfl
      refine take_ (i := 7) (N := some 37) (v := ?_) (a' := ?_) #[true, true, true, true, false, false, true, true, false, false] rfl rfl (take_ofW HT_.out HW_.out (by kernel_rfl)) (fun _ _ _ h => h) (Or.inl ⟨by rfl, ?_⟩) hHeld ?_ ?_
      rotate_left
      · rintro w' ⟨s0, s1, s2, s3, s4⟩
        go_simp
        with_reducible rfl
      rotate_left
      · simp only [Act.put, List.setIfInBounds_toArray, List.set_cons_zero, List.set_cons_succ, i64_w, i32_w]
        rfl
      refine pure_ (i := 4) (N := some 34) (v := ?_) (a' := ?_) #[true, true, true, true, true, false, true, true, false, false] rfl rfl (any_of HT_.out (by kernel_rfl)) (fun _ _ _ h => h) (Or.inl ⟨by rfl, ?_⟩) ?_ ?_
      rotate_left
      · intro w'
        go_simp
        with_reducible rfl
      rotate_left
      · simp only [Act.put, List.setIfInBounds_toArray, List.set_cons_zero, List.set_cons_succ, i64_w, i32_w]
        rfl
      refine take_ (i := 5) (N := some 35) (v := ?_) (a' := ?_) #[true, true, true, true, true, true, true, true, false, false] rfl rfl (take_ofW HT_.out HW_.out (by kernel_rfl)) (fun _ _ _ h => h) (Or.inl ⟨by rfl, ?_⟩) hHeld ?_ ?_
      rotate_left
      · rintro w' ⟨s0, s1, s2, s3, s4⟩
        go_simp
        with_reducible rfl
      rotate_left
      · simp only [Act.put, List.setIfInBounds_toArray, List.set_cons_zero, List.set_cons_succ, i64_w, i32_w]
        rfl
      refine one_ (i := 8) (N := some 38) #[true, true, true, true, true, true, true, true, true, false] rfl rfl (one_of HT_.out (by kernel_rfl)) (by decide) (fun K hK => ?_)
      refine goes_ Try.func94 (by kernel_rfl) rfl #[.agg #[.int .i64 m.f0, .int .i64 m.f1, .int .i64 m.f2], .int .i64 x1] (by rfl) rfl rfl (by (try simp only [List.map_toArray, List.map_cons, List.map_nil]); first | done | rfl) ?_
      refine (weigh_mark_times.calls m.f0 m.f1 m.f2 x1 t.f0 t.f1 t.f2 _ HTM.out).mono ?_
      rintro e W7 ⟨rfl, hb⟩
      refine ⟨_, rfl, ?_⟩
      have HO7 := Aside0.mk (HOd.out.below hb)
      have HG7 := Aside0.mk (World.grownBy.trans HGd.out (grown_of_below hb (some gM)))
      have cell_on : ∀ {p : Addr} {v : Value}, W.cell? p = some v → W7.cell? p = some v := fun h => (hb.cell (World.block_lt_of_cell? _ _ h)).trans h
      refine hK.out _ _ ⟨cell_on hHeld.1, cell_on hHeld.2.1, cell_on hHeld.2.2.1, cell_on hHeld.2.2.2.1, cell_on hHeld.2.2.2.2⟩ (fun hHeld => ?_)
      clear hK K hb HOd HGd
      refine norm_ (a' := ?_) ?_ ?_
      rotate_left
      · show Act.put _ (some 38) _ = _
        simp only [Act.put, List.setIfInBounds_toArray, List.set_cons_zero, List.set_cons_succ, i64_w, i32_w]
        rfl
      obtain ⟨W8, hrun, hO8, hG8⟩ := HO7.out.put HTO.out
      have hrun' : (Instr.mapUpdate 97 (.map (some gM)) (.agg #[.int .i64 t.f0, .int .i64 t.f1, .int .i64 t.f2]) (.bool true)).run Try.prog W7 = .ok () W8 := hrun
      refine one_ (i := 9) (N := none) #[true, true, true, true, true, true, true, true, true, true] rfl rfl (one_of HT_.out (by kernel_rfl)) (by decide) (fun K hK => ?_)
      refine skip_ (w1 := W8) (by rfl) rfl ?_ ?_
      · first | (go_simp; done) | (go_simp; rfl) | simp [execOp, hrun', Result.andThen]
      have nc : gc ≠ gM := by omega
      refine hK.out _ _ ⟨grown_cell hG8 hHeld.1 nc, grown_cell hG8 hHeld.2.1 nc, grown_cell hG8 hHeld.2.2.1 nl0, grown_cell hG8 hHeld.2.2.2.1 nl0, grown_cell hG8 hHeld.2.2.2.2 nl0⟩ (fun hHeld => ?_)
      clear hK K
      refine done_ (done_of HT_.out (by kernel_rfl)) ?_
      have HO8 := Aside0.mk hO8
      have HG8 := Aside0.mk (World.grownBy.trans HG7.out hG8)
      clear hO8 hG8 hrun hrun' HO7 HG7 hHeld
      go_wp2
      go_roundg (cs.length - (i + 1))
      case measure => omega
      case rel =>
        refine ⟨i + 1, by omega, by omega, by go_num, HG8, ⟨?_⟩⟩
        have h := HO8.out
        rw [Bi.out, foundL_snoc]
        rw [HT.out] at h
        exact h
    · have hilz : ¬ (i : Int) < (cs.length : Int) := by omega
      have hil' : cs.length ≤ i := by omega
      obtain ⟨es, clk, hes, hel⟩ := HO.out.len
      have hu97 : Try.prog.underlying 97 = some (.map (Try.prog.mapKeyOf 97) (Try.prog.mapElemOf 97)) := by kernel_rfl
      have hln := run_len_map (P := Try.prog) (w := wr) 97 3 gM es clk hu97 hes
      go_wp2
      go_ret2
      have e : ((foundL L (List.take i cs)).length : Int) = r1 := by rw [List.take_of_length_le hil']; exact H1.out
      refine ⟨?_, HB6.out.grown BR.out HB6.out.size (fun k hk => by injection hk with hk; omega)⟩
      rw [← e]
      rfl
end Go.Proofs.Ytdbeochifofdoaa.X
end

section
-- Written by a program of this session (wip/hook.py, which runs the kit's print.py with contracts proved by hand). Not trusted: Lean checks it.
namespace Go.Proofs.Ytdbeochifofdoaa.X
open Go.RowKit Go.Proofs.YtdbeochifofdoaaW.PrintWords Go.Proofs.YtdbeochifofdoaaW.PrintLast Go.Proofs.YtdbeochifofdoaaW.PrintMore
attribute [local go_sem] max2_int min2_int max_two min_two max_three min_three max_four min_four   -- for this text's walks alone
set_option linter.unusedVariables false
set_option linter.unusedSimpArgs false

/-! ### verditerlaw06_weighPossible: function 28 -/
def verditerlaw06_weighPossible.j0 : Nat → Int → List (S53) → Int → Int → Bool → Option (Bool)
  | 0, _, _, _, _, _ => none
  | k + 1, x0, x1, x7, x8, x33 => if x33 = true then (some false) else ((weigh_Tells.f x0 x1).bind fun bt377 => (if x8 = 0 then (if bt377.2 = 0 then (if (bt377.1 == (x7 == (wrap64 ((wrap64 (2 * x0)) + 1)))) = true then ((verditerlaw06_known.f k).bind fun t379 => (some t379)) else (some false)) else (some false)) else ((verditerlaw06_known.f k).bind fun t380 => (some t380))))
def verditerlaw06_weighPossible.f (k : Nat) (a0 : Int) (l1 : List (S53)) : Option (Bool) := (verditerlaw06_Long.f k l1).bind fun t371 => (if t371 = true then ((verditerlaw06_known.f k).bind fun t372 => (some t372)) else ((verditerref06_Possible.f k a0 l1).bind fun bt373 => ((weigh_Possible.f a0 l1).bind fun bt375 => (if bt375.1 = bt373.1 then (verditerlaw06_weighPossible.j0 k a0 l1 bt375.1 bt375.2 (bt375.2 != bt373.2)) else (verditerlaw06_weighPossible.j0 k a0 l1 bt375.1 bt375.2 true)))))
theorem verditerlaw06_weighPossible.mono_l : ∀ k, (∀ y0 y1 y2 y3 y4, LeO (verditerlaw06_weighPossible.j0 k y0 y1 y2 y3 y4) (verditerlaw06_weighPossible.j0 (k + 1) y0 y1 y2 y3 y4))
  | 0 => fun _ _ _ _ _ r h => by simp [verditerlaw06_weighPossible.j0] at h
  | k + 1 => by
    have ih0 := verditerlaw06_weighPossible.mono_l k
    · intro y0 y1 y2 y3 y4
      unfold verditerlaw06_weighPossible.j0
      repeat' first
      | (with_reducible exact ih0 _ _ _ _ _)
      | (with_reducible exact verditerlaw06_Long.mono _ _)
      | (with_reducible exact verditerlaw06_known.mono _)
      | (with_reducible exact verditerref06_Possible.mono _ _ _)
      | (with_reducible exact LeO.refl _)
      | (with_reducible exact LeO.none _)
      | (with_reducible refine LeO.ite ?_ ?_)
      | (with_reducible refine LeO.bind ?_ (fun _ => ?_))
      | exact ih0 _ _ _ _ _
      | exact verditerlaw06_Long.mono _ _
      | exact verditerlaw06_known.mono _
      | exact verditerref06_Possible.mono _ _ _
      | exact LeO.none _
      | refine LeO.ite ?_ ?_
      | refine LeO.bind ?_ (fun _ => ?_)
theorem verditerlaw06_weighPossible.mono : ∀ a0 a1 k, LeO (verditerlaw06_weighPossible.f k a0 a1) (verditerlaw06_weighPossible.f (k + 1) a0 a1) := by
  intro a0 a1 k
  have ih0 := verditerlaw06_weighPossible.mono_l k
  unfold verditerlaw06_weighPossible.f
  repeat' first
      | (with_reducible exact ih0 _ _ _ _ _)
      | (with_reducible exact verditerlaw06_Long.mono _ _)
      | (with_reducible exact verditerlaw06_known.mono _)
      | (with_reducible exact verditerref06_Possible.mono _ _ _)
      | (with_reducible exact LeO.refl _)
      | (with_reducible exact LeO.none _)
      | (with_reducible refine LeO.ite ?_ ?_)
      | (with_reducible refine LeO.bind ?_ (fun _ => ?_))
      | exact ih0 _ _ _ _ _
      | exact verditerlaw06_Long.mono _ _
      | exact verditerlaw06_known.mono _
      | exact verditerref06_Possible.mono _ _ _
      | exact LeO.none _
      | refine LeO.ite ?_ ?_
      | refine LeO.bind ?_ (fun _ => ?_)
set_option maxHeartbeats 8000000 in
set_option maxRecDepth 100000 in
theorem verditerlaw06_weighPossible.calls (k : Nat) (a0 : Int) (A1 : Option Addr) (c1 : Nat) (l1 : List (S53)) (r : Bool) (w : World) (hr1 : Kd.C k53 w A1 l1.length l1) (hc1 : l1.length ≤ c1) (h : verditerlaw06_weighPossible.f k a0 l1 = some r) :
    Calls Try.prog 28 #[.int .i64 a0, .slice A1 l1.length c1] w fun e w' => e = .returned (.bool r) ∧ Below w.heap.size w w' := by
  have HR1 := Aside0.mk hr1
  have HC1 := Aside0.mk hc1
  clear hr1 hc1
  have HB := Aside0.mk (Below.refl w.heap.size w)
  have H : ((verditerlaw06_Long.f k l1).bind fun t371 => (if t371 = true then ((verditerlaw06_known.f k).bind fun t372 => (some t372)) else ((verditerref06_Possible.f k a0 l1).bind fun bt373 => ((weigh_Possible.f a0 l1).bind fun bt375 => (if bt375.1 = bt373.1 then (verditerlaw06_weighPossible.j0 k a0 l1 bt375.1 bt375.2 (bt375.2 != bt373.2)) else (verditerlaw06_weighPossible.j0 k a0 l1 bt375.1 bt375.2 true)))))) = some r := h
  clear h
  replace H := Option.bind_eq_some_iff.mp H
  obtain ⟨t371, A30, H⟩ := H
  replace H : (if t371 = true then ((verditerlaw06_known.f k).bind fun t372 => (some t372)) else ((verditerref06_Possible.f k a0 l1).bind fun bt373 => ((weigh_Possible.f a0 l1).bind fun bt375 => (if bt375.1 = bt373.1 then (verditerlaw06_weighPossible.j0 k a0 l1 bt375.1 bt375.2 (bt375.2 != bt373.2)) else (verditerlaw06_weighPossible.j0 k a0 l1 bt375.1 bt375.2 true))))) = some r := H
  have A3 := Aside0.mk A30
  clear A30
  by_cases c4 : t371 = true
  · subst c4
    have H1 : ((verditerlaw06_known.f k).bind fun t372 => (some t372)) = some r := by rw [if_pos rfl] at H; exact H
    clear H
    have H := H1
    clear H1
    replace H := Option.bind_eq_some_iff.mp H
    obtain ⟨t372, A50, H⟩ := H
    replace H : (some t372) = some r := H
    have A5 := Aside0.mk A50
    clear A50
    obtain rfl := Option.some.inj H
    go_enter Try.func28, Try.ntmps28
    go_wp2_with (first | ((with_reducible refine gate_callee (f := 43) rfl ?_); refine goesL_ (some 12) rfl rfl Try.func43 (by kernel_rfl) rfl #[.slice A1 l1.length c1] rfl (by (try simp only [List.map_toArray, List.map_cons, List.map_nil]); first | done | rfl | (simp only [List.length_drop, List.length_take]; rfl)) ?_; (with_reducible refine (verditerlaw06_Long.calls k _ _ l1 true _ ?side1 ?side2 A3.out).mono ?_); (case side1 => repeat (first | exact HR1.out | (with_reducible refine Kd.C_alloc ?_ _) | (with_reducible refine Kd.C_drewN ?_ _) | (with_reducible refine Kd.C_drew ?_))); (case side2 => exact HC1.out); rintro e w' ⟨rfl, ⟨nd, rfl⟩⟩; refine ⟨_, rfl, ?_⟩) | ((with_reducible refine gate_callee (f := 25) rfl ?_); refine goesL_ (some 13) rfl rfl Try.func25 (by kernel_rfl) rfl #[] rfl (by (try simp only [List.map_toArray, List.map_cons, List.map_nil]); first | done | rfl | (simp only [List.length_drop, List.length_take]; rfl)) ?_; (with_reducible refine (verditerlaw06_known.calls k  t372 _ A5.out).mono ?_); rintro e w6 ⟨rfl, hb⟩; refine ⟨_, rfl, ?_⟩; have n0_ := Aside0.mk (below_step (by repeat (first | (with_reducible first | exact HB.out | apply below_alloc | apply pw_below_drewN | apply below_drew1) | exact HB.out)) hb); clear HB; have HB := n0_; clear n0_; (try clear hb); (try clear hb2); (try clear hk); (try clear hi)))
    go_ret
    exact ⟨by first | rfl | (simp [errW_none, errW_some] <;> rfl) | (simp [*, errW_none, errW_some] <;> rfl), by repeat (first | (with_reducible first | exact HB.out | apply below_alloc | apply pw_below_drewN | apply below_drew1) | exact HB.out)⟩
  · replace c4 := Bool.eq_false_iff.mpr c4
    subst c4
    have H1 : ((verditerref06_Possible.f k a0 l1).bind fun bt373 => ((weigh_Possible.f a0 l1).bind fun bt375 => (if bt375.1 = bt373.1 then (verditerlaw06_weighPossible.j0 k a0 l1 bt375.1 bt375.2 (bt375.2 != bt373.2)) else (verditerlaw06_weighPossible.j0 k a0 l1 bt375.1 bt375.2 true)))) = some r := by rw [if_neg (show ¬ (false = true) by decide)] at H; exact H
    clear H
    have H := H1
    clear H1
    replace H := Option.bind_eq_some_iff.mp H
    obtain ⟨⟨t373, t374⟩, A70, H⟩ := H
    replace H : ((weigh_Possible.f a0 l1).bind fun bt375 => (if bt375.1 = t373 then (verditerlaw06_weighPossible.j0 k a0 l1 bt375.1 bt375.2 (bt375.2 != t374)) else (verditerlaw06_weighPossible.j0 k a0 l1 bt375.1 bt375.2 true))) = some r := H
    have A7 := Aside0.mk A70
    clear A70
    replace H := Option.bind_eq_some_iff.mp H
    obtain ⟨⟨t375, t376⟩, A80, H⟩ := H
    replace H : (if t375 = t373 then (verditerlaw06_weighPossible.j0 k a0 l1 t375 t376 (t376 != t374)) else (verditerlaw06_weighPossible.j0 k a0 l1 t375 t376 true)) = some r := H
    have A8 := Aside0.mk A80
    clear A80
    have HC9 := Aside0.mk H
    clear H
    go_enter Try.func28, Try.ntmps28
    go_upto_region 5 with (first | ((with_reducible refine gate_callee (f := 43) rfl ?_); refine goesL_ (some 12) rfl rfl Try.func43 (by kernel_rfl) rfl #[.slice A1 l1.length c1] rfl (by (try simp only [List.map_toArray, List.map_cons, List.map_nil]); first | done | rfl | (simp only [List.length_drop, List.length_take]; rfl)) ?_; (with_reducible refine (verditerlaw06_Long.calls k _ _ l1 false _ ?side1 ?side2 A3.out).mono ?_); (case side1 => repeat (first | exact HR1.out | (with_reducible refine Kd.C_alloc ?_ _) | (with_reducible refine Kd.C_drewN ?_ _) | (with_reducible refine Kd.C_drew ?_))); (case side2 => exact HC1.out); rintro e w' ⟨rfl, ⟨nd, rfl⟩⟩; refine ⟨_, rfl, ?_⟩) | ((with_reducible refine gate_callee (f := 54) rfl ?_); refine goesL_ (some 17) rfl rfl Try.func54 (by kernel_rfl) rfl #[.int .i64 a0, .slice A1 l1.length c1] rfl (by (try simp only [List.map_toArray, List.map_cons, List.map_nil]); first | done | rfl | (simp only [List.length_drop, List.length_take]; rfl)) ?_; (with_reducible refine (verditerref06_Possible.calls k a0 _ _ l1 t373 t374 _ ?side1 ?side2 A7.out).mono ?_); (case side1 => repeat (first | exact HR1.out | (with_reducible refine Kd.C_alloc ?_ _) | (with_reducible refine Kd.C_drewN ?_ _) | (with_reducible refine Kd.C_drew ?_))); (case side2 => exact HC1.out); rintro e w10 ⟨rfl, hb⟩; refine ⟨_, rfl, ?_⟩; have n0_ := Aside0.mk (below_step (by repeat (first | (with_reducible first | exact HB.out | apply below_alloc | apply pw_below_drewN | apply below_drew1) | exact HB.out)) hb); clear HB; have HB := n0_; clear n0_; (try clear hb); (try clear hb2); (try clear hk); (try clear hi)) | ((with_reducible refine gate_callee (f := 55) rfl ?_); refine goesL_ (some 23) rfl rfl Try.func55 (by kernel_rfl) rfl #[.int .i64 a0, .slice A1 l1.length c1] rfl (by (try simp only [List.map_toArray, List.map_cons, List.map_nil]); first | done | rfl | (simp only [List.length_drop, List.length_take]; rfl)) ?_; (with_reducible refine (weigh_Possible.calls a0 _ _ l1 t375 t376 _ ?side1 ?side2 A8.out).mono ?_); (case side1 => repeat (first | exact (Kd.C_below HR1.out HB.out) | (with_reducible refine Kd.C_alloc ?_ _) | (with_reducible refine Kd.C_drewN ?_ _) | (with_reducible refine Kd.C_drew ?_))); (case side2 => exact HC1.out); rintro e w11 ⟨rfl, hb⟩; refine ⟨_, rfl, ?_⟩; have n0_ := Aside0.mk (below_step (by repeat (first | (with_reducible first | exact HB.out | apply below_alloc | apply pw_below_drewN | apply below_drew1) | exact HB.out)) hb); clear HB; have HB := n0_; clear n0_; (try clear hb); (try clear hb2); (try clear hk); (try clear hi)))
    (try simp only [Act.put, List.setIfInBounds_toArray, List.set_cons_zero, List.set_cons_succ])
    go_cut [33] (fun v33 wc => ∃ (kq : Nat) (x33_8 : Bool), v33 = .bool x33_8 ∧ Aside0 (verditerlaw06_weighPossible.j0 kq a0 l1 t375 t376 x33_8 = some r) ∧ Aside0 (kq ≤ k) ∧ Aside0 (Below w.heap.size w wc))
    case first =>
      have H := HC9.out
      clear HC9
      by_cases c12 : t375 = t373
      · rw [if_pos c12] at H
        have c12b0 : (t375 == t373) = true := beq_iff_eq.mpr c12
        have c12b1 : (t375 != t373) = false := bne_eq_false_iff_eq.mpr c12
        clear c12
        (first | rw [c12b0] | (simp only [i64_w, i32_w]; rw [c12b0]) | skip)
        have H' := Aside0.mk H
        clear H
        go_wp2
        go_meet
        case rel => exact ⟨_, ((t376 != t374)), (by first | rfl | (simp; done) | (simp [*]; done)), H', ⟨by first | omega | exact Nat.le_refl _⟩, ⟨by repeat (first | (with_reducible first | exact HB.out | apply below_alloc | apply pw_below_drewN | apply below_drew1) | exact HB.out)⟩⟩
      · rw [if_neg c12] at H
        have c12b0 : (t375 == t373) = false := beq_eq_false_iff_ne.mpr c12
        have c12b1 : (t375 != t373) = true := bne_iff_ne.mpr c12
        (first | rw [c12b0] | (simp only [i64_w, i32_w]; rw [c12b0]) | skip)
        have H' := Aside0.mk H
        clear H
        go_wp2
        go_meet
        case rel => exact ⟨_, (true), (by first | rfl | (simp; done) | (simp [*]; done)), H', ⟨by first | omega | exact Nat.le_refl _⟩, ⟨by repeat (first | (with_reducible first | exact HB.out | apply below_alloc | apply pw_below_drewN | apply below_drew1) | exact HB.out)⟩⟩
    case rest =>
      clear HC9
      try clear c1
      try clear c2
      try clear p2
      try clear c4
      try clear c5
      try clear c12
      try clear c12b0
      try clear c12b1
      obtain ⟨kq, x33_8, rfl, HA, HJ8, HB⟩ := hcut
      cases kq with
      | zero => exact absurd HA.out (by simp [verditerlaw06_weighPossible.j0])
      | succ kj8 =>
        have H := HA.out
        clear HA
        simp only [verditerlaw06_weighPossible.j0] at H
        by_cases c13 : x33_8 = true
        · subst c13
          have H1 : (some false) = some r := by rw [if_pos rfl] at H; exact H
          clear H
          have H := H1
          clear H1
          obtain rfl := Option.some.inj H
          go_wp2
          go_ret
          exact ⟨by first | rfl | (simp [errW_none, errW_some] <;> rfl) | (simp [*, errW_none, errW_some] <;> rfl), by repeat (first | (with_reducible first | exact HB.out | apply below_alloc | apply pw_below_drewN | apply below_drew1) | exact HB.out)⟩
        · replace c13 := Bool.eq_false_iff.mpr c13
          subst c13
          have H1 : ((weigh_Tells.f a0 l1).bind fun bt377 => (if t376 = 0 then (if bt377.2 = 0 then (if (bt377.1 == (t375 == (wrap64 ((wrap64 (2 * a0)) + 1)))) = true then ((verditerlaw06_known.f kj8).bind fun t379 => (some t379)) else (some false)) else (some false)) else ((verditerlaw06_known.f kj8).bind fun t380 => (some t380)))) = some r := by rw [if_neg (show ¬ (false = true) by decide)] at H; exact H
          clear H
          have H := H1
          clear H1
          replace H := Option.bind_eq_some_iff.mp H
          obtain ⟨⟨t377, t378⟩, A140, H⟩ := H
          replace H : (if t376 = 0 then (if t378 = 0 then (if (t377 == (t375 == (wrap64 ((wrap64 (2 * a0)) + 1)))) = true then ((verditerlaw06_known.f kj8).bind fun t379 => (some t379)) else (some false)) else (some false)) else ((verditerlaw06_known.f kj8).bind fun t380 => (some t380))) = some r := H
          have A14 := Aside0.mk A140
          clear A140
          by_cases c15 : t376 = 0
          · rw [if_pos c15] at H
            have c15b0 : (t376 == 0) = true := beq_iff_eq.mpr c15
            have c15b1 : (t376 != 0) = false := bne_eq_false_iff_eq.mpr c15
            clear c15
            by_cases c16 : t378 = 0
            · rw [if_pos c16] at H
              have c16b0 : (t378 == 0) = true := beq_iff_eq.mpr c16
              have c16b1 : (t378 != 0) = false := bne_eq_false_iff_eq.mpr c16
              clear c16
              by_cases c17 : (t377 == (t375 == (wrap64 ((wrap64 (2 * a0)) + 1)))) = true
              · rw [if_pos c17] at H
                have c17b0 : (t377 == (t375 == (wrap64 ((wrap64 (2 * a0)) + 1)))) = true := c17
                (try (have c17b1 : decide (t377 = (t375 == (wrap64 ((wrap64 (2 * a0)) + 1)))) = true := by simpa using c17))
                (try (have c17b2 : (t377 == (t375 == (wrap64 ((wrap64 (2 * a0)) + 1)))) = true := by simpa using c17))
                clear c17
                replace H := Option.bind_eq_some_iff.mp H
                obtain ⟨t379, A180, H⟩ := H
                replace H : (some t379) = some r := H
                have A18 := Aside0.mk A180
                clear A180
                obtain rfl := Option.some.inj H
                go_wp2_with (first | ((with_reducible refine gate_callee (f := 44) rfl ?_); refine goesL_ (some 37) rfl rfl Try.func44 (by kernel_rfl) rfl #[.int .i64 a0, .slice A1 l1.length c1] rfl (by (try simp only [List.map_toArray, List.map_cons, List.map_nil]); first | done | rfl | (simp only [List.length_drop, List.length_take]; rfl)) ?_; (with_reducible refine (weigh_Tells.calls a0 _ _ l1 t377 t378 _ ?side1 ?side2 A14.out).mono ?_); (case side1 => repeat (first | exact (Kd.C_below HR1.out HB.out) | (with_reducible refine Kd.C_alloc ?_ _) | (with_reducible refine Kd.C_drewN ?_ _) | (with_reducible refine Kd.C_drew ?_))); (case side2 => exact HC1.out); rintro e w19 ⟨rfl, hb⟩; refine ⟨_, rfl, ?_⟩; have n0_ := Aside0.mk (below_step (by repeat (first | (with_reducible first | exact HB.out | apply below_alloc | apply pw_below_drewN | apply below_drew1) | exact HB.out)) hb); clear HB; have HB := n0_; clear n0_; (try clear hb); (try clear hb2); (try clear hk); (try clear hi)) | (go_at_call 25; (with_reducible refine (verditerlaw06_known.calls kj8  t379 _ A18.out).mono ?_); rintro e w20 ⟨rfl, hb⟩; have n0_ := Aside0.mk (below_step (by repeat (first | (with_reducible first | exact HB.out | apply below_alloc | apply pw_below_drewN | apply below_drew1) | exact HB.out)) hb); clear HB; have HB := n0_; clear n0_; (try clear hb); (try clear hb2); (try clear hk); (try clear hi)))
                go_ret
                exact ⟨by first | rfl | (simp [errW_none, errW_some] <;> rfl) | (simp [*, errW_none, errW_some] <;> rfl), by repeat (first | (with_reducible first | exact HB.out | apply below_alloc | apply pw_below_drewN | apply below_drew1) | exact HB.out)⟩
              · rw [if_neg c17] at H
                have c17b0 : (t377 == (t375 == (wrap64 ((wrap64 (2 * a0)) + 1)))) = false := by simpa using c17
                (try (have c17b1 : decide (t377 = (t375 == (wrap64 ((wrap64 (2 * a0)) + 1)))) = false := by simpa using c17))
                (try (have c17b2 : (t377 == (t375 == (wrap64 ((wrap64 (2 * a0)) + 1)))) = false := by simpa using c17))
                (try (have c17b3 : ¬ (t377 = (t375 == (wrap64 ((wrap64 (2 * a0)) + 1)))) := by simpa using c17))
                clear c17
                obtain rfl := Option.some.inj H
                go_wp2_with (first | ((with_reducible refine gate_callee (f := 44) rfl ?_); refine goesL_ (some 37) rfl rfl Try.func44 (by kernel_rfl) rfl #[.int .i64 a0, .slice A1 l1.length c1] rfl (by (try simp only [List.map_toArray, List.map_cons, List.map_nil]); first | done | rfl | (simp only [List.length_drop, List.length_take]; rfl)) ?_; (with_reducible refine (weigh_Tells.calls a0 _ _ l1 t377 t378 _ ?side1 ?side2 A14.out).mono ?_); (case side1 => repeat (first | exact (Kd.C_below HR1.out HB.out) | (with_reducible refine Kd.C_alloc ?_ _) | (with_reducible refine Kd.C_drewN ?_ _) | (with_reducible refine Kd.C_drew ?_))); (case side2 => exact HC1.out); rintro e w21 ⟨rfl, hb⟩; refine ⟨_, rfl, ?_⟩; have n0_ := Aside0.mk (below_step (by repeat (first | (with_reducible first | exact HB.out | apply below_alloc | apply pw_below_drewN | apply below_drew1) | exact HB.out)) hb); clear HB; have HB := n0_; clear n0_; (try clear hb); (try clear hb2); (try clear hk); (try clear hi)))
                go_ret
                exact ⟨by first | rfl | (simp [errW_none, errW_some] <;> rfl) | (simp [*, errW_none, errW_some] <;> rfl), by repeat (first | (with_reducible first | exact HB.out | apply below_alloc | apply pw_below_drewN | apply below_drew1) | exact HB.out)⟩
            · rw [if_neg c16] at H
              have c16b0 : (t378 == 0) = false := beq_eq_false_iff_ne.mpr c16
              have c16b1 : (t378 != 0) = true := bne_iff_ne.mpr c16
              obtain rfl := Option.some.inj H
              go_wp2_with (first | ((with_reducible refine gate_callee (f := 44) rfl ?_); refine goesL_ (some 37) rfl rfl Try.func44 (by kernel_rfl) rfl #[.int .i64 a0, .slice A1 l1.length c1] rfl (by (try simp only [List.map_toArray, List.map_cons, List.map_nil]); first | done | rfl | (simp only [List.length_drop, List.length_take]; rfl)) ?_; (with_reducible refine (weigh_Tells.calls a0 _ _ l1 t377 t378 _ ?side1 ?side2 A14.out).mono ?_); (case side1 => repeat (first | exact (Kd.C_below HR1.out HB.out) | (with_reducible refine Kd.C_alloc ?_ _) | (with_reducible refine Kd.C_drewN ?_ _) | (with_reducible refine Kd.C_drew ?_))); (case side2 => exact HC1.out); rintro e w22 ⟨rfl, hb⟩; refine ⟨_, rfl, ?_⟩; have n0_ := Aside0.mk (below_step (by repeat (first | (with_reducible first | exact HB.out | apply below_alloc | apply pw_below_drewN | apply below_drew1) | exact HB.out)) hb); clear HB; have HB := n0_; clear n0_; (try clear hb); (try clear hb2); (try clear hk); (try clear hi)))
              go_ret
              exact ⟨by first | rfl | (simp [errW_none, errW_some] <;> rfl) | (simp [*, errW_none, errW_some] <;> rfl), by repeat (first | (with_reducible first | exact HB.out | apply below_alloc | apply pw_below_drewN | apply below_drew1) | exact HB.out)⟩
          · rw [if_neg c15] at H
            have c15b0 : (t376 == 0) = false := beq_eq_false_iff_ne.mpr c15
            have c15b1 : (t376 != 0) = true := bne_iff_ne.mpr c15
            replace H := Option.bind_eq_some_iff.mp H
            obtain ⟨t380, A230, H⟩ := H
            replace H : (some t380) = some r := H
            have A23 := Aside0.mk A230
            clear A230
            obtain rfl := Option.some.inj H
            go_wp2_with (first | ((with_reducible refine gate_callee (f := 44) rfl ?_); refine goesL_ (some 37) rfl rfl Try.func44 (by kernel_rfl) rfl #[.int .i64 a0, .slice A1 l1.length c1] rfl (by (try simp only [List.map_toArray, List.map_cons, List.map_nil]); first | done | rfl | (simp only [List.length_drop, List.length_take]; rfl)) ?_; (with_reducible refine (weigh_Tells.calls a0 _ _ l1 t377 t378 _ ?side1 ?side2 A14.out).mono ?_); (case side1 => repeat (first | exact (Kd.C_below HR1.out HB.out) | (with_reducible refine Kd.C_alloc ?_ _) | (with_reducible refine Kd.C_drewN ?_ _) | (with_reducible refine Kd.C_drew ?_))); (case side2 => exact HC1.out); rintro e w24 ⟨rfl, hb⟩; refine ⟨_, rfl, ?_⟩; have n0_ := Aside0.mk (below_step (by repeat (first | (with_reducible first | exact HB.out | apply below_alloc | apply pw_below_drewN | apply below_drew1) | exact HB.out)) hb); clear HB; have HB := n0_; clear n0_; (try clear hb); (try clear hb2); (try clear hk); (try clear hi)) | (go_at_call 25; (with_reducible refine (verditerlaw06_known.calls kj8  t380 _ A23.out).mono ?_); rintro e w25 ⟨rfl, hb⟩; have n0_ := Aside0.mk (below_step (by repeat (first | (with_reducible first | exact HB.out | apply below_alloc | apply pw_below_drewN | apply below_drew1) | exact HB.out)) hb); clear HB; have HB := n0_; clear n0_; (try clear hb); (try clear hb2); (try clear hk); (try clear hi)))
            go_ret
            exact ⟨by first | rfl | (simp [errW_none, errW_some] <;> rfl) | (simp [*, errW_none, errW_some] <;> rfl), by repeat (first | (with_reducible first | exact HB.out | apply below_alloc | apply pw_below_drewN | apply below_drew1) | exact HB.out)⟩

end Go.Proofs.Ytdbeochifofdoaa.X
end

section
/-! The law WeighPossible: own := KeepWeighings(plan); what it states; KeptWeighings(own, plan). -/
namespace Go.Proofs.Ytdbeochifofdoaa.X
open Go.RowKit Go.Proofs.YtdbeochifofdoaaW.PrintWords Go.Proofs.YtdbeochifofdoaaW.PrintLast Go.Proofs.YtdbeochifofdoaaW.PrintMore
set_option linter.unusedVariables false
set_option linter.unusedSimpArgs false

set_option maxHeartbeats 4000000 in
set_option maxRecDepth 100000 in
theorem weighPossible_calls (k : Nat) (a0 : Int) (A : Option Addr) (l : List S53) (ys : List S53) (w : World) (hl : Kd.C k53 w A l.length l) (hc : l.length ≤ ys.length) (hF : FullW w A ys) (hn : ys.length ≤ 2932031007402)
    (hs : ∀ y, y ∈ ys → y.f0.length ≤ 17592186044416 ∧ y.f1.length ≤ 17592186044416) (h : verditerlaw06_weighPossible.f k a0 l = some true) :
    Calls Try.prog 7 #[.int .i64 a0, .slice A l.length ys.length] w fun e w' => e = .returned (.bool true) ∧ Below w.heap.size w w' := by
  have HL := Aside0.mk hl
  have HF := Aside0.mk hF
  have HS := Aside0.mk hs
  have H := Aside0.mk h
  clear hl hF hs h
  go_enter Try.func7, Try.ntmps7
  go_wp2_with fail
  refine (keepW_calls A l.length ys w HF.out hc hn HS.out).mono ?_
  rintro e w1 ⟨v, rfl, hN, hB1⟩
  obtain ⟨Ao, co, rfl⟩ := Kd.N_slice hN
  have HO := Aside0.mk (Kd.N_reads' hN).2.2
  have HB1 := Aside0.mk hB1
  clear hN hB1
  go_wp2_with fail
  refine (verditerlaw06_weighPossible.calls k a0 A ys.length l true _ (Kd.C_below HL.out HB1.out) hc H.out).mono ?_
  rintro e w2 ⟨rfl, hB2⟩
  have HB2 := Aside0.mk hB2
  have HB := Aside0.mk (HB1.out.trans (hB2.mono HB1.out.size))
  clear hB2
  go_wp2_with fail
  refine (keptW_calls Ao co A l.length ys _ (Kd.C_below HO.out HB2.out) (HF.out.below HB.out) hc).mono ?_
  rintro e w3 ⟨rfl, hB3⟩
  have HB3 := Aside0.mk (HB.out.trans (hB3.mono HB.out.size))
  clear hB3
  go_wp2
  go_ret
  exact ⟨rfl, HB3.out⟩
end Go.Proofs.Ytdbeochifofdoaa.X
end

section
/-! A plan that comes in: what its cells hold, up to its length and up to its capacity. -/
namespace Go.Proofs.Ytdbeochifofdoaa.X
open Go.ChangeShapes Go.WideShapes Go.RowKit Go.Proofs.YtdbeochifofdoaaW.PrintWords Go.Proofs.YtdbeochifofdoaaW.PrintLast Go.Proofs.YtdbeochifofdoaaW.PrintMore
set_option linter.unusedVariables false
set_option linter.unusedSimpArgs false

theorem list_of {α : Type} (d : α) (n : Nat) (P : Nat → α → Prop) (h : ∀ i, i < n → ∃ y, P i y) : ∃ ys : List α, ys.length = n ∧ ∀ i, i < n → P i (ys.getD i d) := by
  classical
  refine ⟨(List.range n).map (fun i => if h' : i < n then (h i h').choose else d), by simp, fun i hi => ?_⟩
  have : ((List.range n).map (fun i => if h' : i < n then (h i h').choose else d)).getD i d = (h i hi).choose := by simp [List.getD_eq_getElem?_getD, hi]
  rw [this]
  exact (h i hi).choose_spec
theorem C_take {α : Type} {d : Kd α} {w : World} {A : Option Addr} {n : Nat} {xs : List α} (h : d.C w A n xs) (m : Nat) (hm : m ≤ n) : d.C w A m (xs.take m) := by
  obtain ⟨h1, h2, h3⟩ := h
  refine ⟨by rw [List.length_take]; omega, by omega, fun h0 => ?_⟩
  obtain ⟨ad, e, hc⟩ := h3 (by omega)
  refine ⟨ad, e, fun j p hj => hc j p ?_⟩
  rw [List.getElem?_take] at hj
  split at hj
  · exact hj
  · cases hj
theorem weights_mem_all {H : Type} {P : Program} {t : TypeId} : ∀ {ds : List (DataW H)} {d : DataW H}, d ∈ ds → ∀ n ∈ d.weights P t, n ∈ DataW.weightsAll P t ds
  | d0 :: ds, d, hd, n, hn => by
    rw [DataW.weightsAll, List.mem_append]
    rcases List.mem_cons.1 hd with rfl | hd
    · exact .inl hn
    · exact .inr (weights_mem_all hd n hn)
  | [], _, hd, _, _ => by cases hd
theorem o_bytes3 : Try.prog.bytesOf 3 = 8 := by kernel_rfl
theorem o_bytes53 : Try.prog.bytesOf 53 = 48 := by kernel_rfl
theorem o_cells3 : Try.prog.cellsOf 3 = 1 := by kernel_rfl
theorem o_cells43 : Try.prog.cellsOf 43 = 1 := by kernel_rfl
theorem o_cells53 : Try.prog.cellsOf 53 = 2 := by kernel_rfl
/-- A list of numbers that comes in. -/
theorem open_intsK {H : Type} {enc : TypeId × Value → H} {W : World} {t : TypeId} {fuel : Nat} {cs : List Value} {x : DataW H × List MemPlace} (ht : Try.prog.underlying t = some (.slice 3))
    (h : DataW.trod enc Try.prog W 0 (fun _ => true) true fuel t cs = some x) (hsz : ∀ n ∈ x.1.weights Try.prog t, n ≤ reachBytes) :
    ∃ (A : Option Addr) (n : Nat) (ys : List Int), cs = [.slice A n ys.length] ∧ n ≤ ys.length ∧ ys.length ≤ 17592186044416 ∧ Kd.C (Kd.int .i64) W A ys.length ys ∧ ∀ z, z ∈ ys → (Lit.int .i64 z).wf = true := by
  rcases open_ints ht Try.underlying3 o_cells3 h with ⟨rfl, rfl⟩ | ⟨a, len, cap, zs, rfl, _, hl, hm, hz, rfl, hcell, hwz⟩
  · exact ⟨none, 0, [], rfl, Nat.le_refl _, by simp, ⟨rfl, by simp, fun h => absurd h (by simp)⟩, fun z hz => by cases hz⟩
  · rw [if_pos rfl] at hz
    subst hz
    have hw : zs.length * 8 ≤ reachBytes := by
      have := hsz ((lits (H := H) .i64 (zs.take len) ++ lits (H := H) .i64 (zs.drop len)).length * Try.prog.bytesOf 3) (by simp [DataW.weights, ht])
      rw [o_bytes3] at this
      simpa [lits, Nat.min_eq_left hl, Nat.add_sub_cancel' hl] using this
    unfold reachBytes at hw
    refine ⟨some a, len, zs, rfl, hl, by omega, Kd.C_of_reads (d := (0 : Int)) (h1 := fun _ => rfl) ⟨rfl, by omega, fun _ => ⟨a, rfl, fun j hj => hcell j hj⟩⟩, fun z hz => ?_⟩
    exact hwz z hz
/-- One weighing that comes in, and its lists' lengths. -/
structure PlanAt (W : World) (a : Addr) (z : S53 × Nat × Nat) : Prop where
  at_ : ∃ Al Ar, W.cell? a = some (.slice Al z.2.1 z.1.f0.length) ∧ W.cell? ⟨a.block, a.off + 1, none⟩ = some (.slice Ar z.2.2 z.1.f1.length) ∧ Kd.C (Kd.int .i64) W Al z.1.f0.length z.1.f0 ∧ Kd.C (Kd.int .i64) W Ar z.1.f1.length z.1.f1
  nl : z.2.1 ≤ z.1.f0.length
  nr : z.2.2 ≤ z.1.f1.length
  bl : z.1.f0.length ≤ 17592186044416
  br : z.1.f1.length ≤ 17592186044416
  il : ∀ x, x ∈ z.1.f0 → (Lit.int .i64 x).wf = true
  ir : ∀ x, x ∈ z.1.f1 → (Lit.int .i64 x).wf = true
theorem o_underlying43 : Try.prog.underlying 43 = some (.slice 3) := by kernel_rfl
theorem o_two_of {α : Type} {l : List α} (h : l.length = 2) : ∃ a b, l = [a, b] := by
  match l, h with
  | [a, b], _ => exact ⟨a, b, rfl⟩
theorem open_weighing {H : Type} {enc : TypeId × Value → H} {W : World} {a : Addr} {fuel : Nat} {cs : List Value} {x : DataW H × List MemPlace} (hc : W.cells? 0 a 2 = some cs)
    (h : DataW.trod enc Try.prog W 0 (fun _ => true) true fuel 53 cs = some x) (hsz : ∀ n ∈ x.1.weights Try.prog 53, n ≤ reachBytes) : ∃ z, PlanAt W a z := by
  obtain ⟨xs, n, _, rfl, hcs, hxs, hf⟩ := DataW.trod_struct Try.underlying53 h
  obtain ⟨_, h2, hcell⟩ := World.cells?_some hc
  obtain ⟨c0, c1, rfl⟩ : ∃ c0 c1, cs = [c0, c1] := o_two_of h2
  obtain ⟨x0, x1, rfl⟩ : ∃ c0 c1, xs = [c0, c1] := o_two_of hxs
  have e0 := hf 0 ⟨"Left", 43, 0, false, "", "", 0⟩ rfl
  have e1 := hf 1 ⟨"Right", 43, 1, false, "", "", 24⟩ rfl
  rw [o_cells43] at e0 e1
  simp only [DataW.weights, Try.underlying53, List.map_cons, List.map_nil, DataW.weightsEach, List.append_nil, List.mem_append] at hsz
  obtain ⟨A0, n0, ys0, q0, l0, b0, C0, i0⟩ := open_intsK o_underlying43 e0 (fun m hm => hsz m (.inl hm))
  obtain ⟨A1, n1, ys1, q1, l1, b1, C1, i1⟩ := open_intsK o_underlying43 e1 (fun m hm => hsz m (.inr hm))
  obtain rfl : c0 = .slice A0 n0 ys0.length := by simpa using q0
  obtain rfl : c1 = .slice A1 n1 ys1.length := by simpa using q1
  have k0 := hcell 0 (by omega)
  have k1 := hcell 1 (by omega)
  refine ⟨(⟨ys0, ys1⟩, n0, n1), ⟨A0, A1, ?_, ?_, C0, C1⟩, l0, l1, b0, b1, i0, i1⟩
  · simpa [Addr.add] using k0
  · simpa [Addr.add] using k1
theorem open_plan {H : Type} {enc : TypeId × Value → H} {W : World} {v : Value} {d : DataW H} {ps : List MemPlace} (h : DataW.Trod enc Try.prog W 0 (fun _ => true) true 22 v d ps) (hv : v.cells = #[v])
    (hsz : ∀ n ∈ d.weights Try.prog 22, n ≤ reachBytes) :
    ∃ (A : Option Addr) (l ys : List S53), v = .slice A l.length ys.length ∧ l.length ≤ ys.length ∧ ys.length ≤ 2932031007402 ∧ Kd.C k53 W A l.length l ∧ FullW W A ys ∧
      (∀ y, y ∈ ys → y.f0.length ≤ 17592186044416 ∧ y.f1.length ≤ 17592186044416) ∧ (∀ y, y ∈ l → (∀ x, x ∈ y.f0 → (Lit.int .i64 x).wf = true) ∧ (∀ x, x ∈ y.f1 → (Lit.int .i64 x).wf = true) ∧ y.f0.length ≤ 17592186044416 ∧ y.f1.length ≤ 17592186044416) := by
  obtain ⟨fuel, hf⟩ := h
  rw [hv] at hf
  rcases DataW.trod_slice Try.underlying22 hf with ⟨hcs, _⟩ | ⟨a, len, cap, elems, rest, n, _, hcs, hx, _, hl, hm, hlen, hel, hsp, _⟩
  · obtain rfl : v = .slice none 0 0 := by simpa using hcs
    exact ⟨none, [], [], rfl, Nat.le_refl _, by simp, ⟨rfl, by simp, fun h => absurd h (by simp)⟩, fun i hi => absurd hi (by simp), fun y hy => (by cases hy), fun y hy => (by cases hy)⟩
  obtain rfl : v = .slice (some a) len cap := by simpa using hcs
  obtain ⟨hrl, hre⟩ := hsp rfl
  obtain ⟨rfl, _⟩ := Prod.mk.inj hx
  simp only [DataW.weights, Try.underlying22, o_bytes53, List.mem_cons, List.mem_append] at hsz
  have hb : (len + (cap - len)) * 48 ≤ reachBytes := by
    have := hsz _ (.inl rfl)
    simpa [hlen, hrl] using this
  unfold reachBytes at hb
  rw [o_cells53] at hel hre
  have each : ∀ i, i < cap → ∃ z, PlanAt W (a.add (i * 2)) z := by
    intro i hi
    by_cases hil : i < len
    · have e := hel i hil
      rw [List.getElem?_eq_getElem (by omega)] at e
      obtain ⟨cs, hc, ht⟩ := Option.bind_eq_some_iff.1 e
      exact open_weighing hc ht (fun m hm => hsz m (.inr (.inl (weights_mem_all (List.mem_map.2 ⟨_, List.getElem_mem _, rfl⟩) m hm))))
    · have e := hre (i - len) (by omega)
      rw [List.getElem?_eq_getElem (by omega), show len + (i - len) = i by omega] at e
      obtain ⟨cs, hc, ht⟩ := Option.bind_eq_some_iff.1 e
      exact open_weighing hc ht (fun m hm => hsz m (.inr (.inr (weights_mem_all (List.mem_map.2 ⟨_, List.getElem_mem _, rfl⟩) m hm))))
  obtain ⟨zs, hzl, hz⟩ := list_of (z53, 0, 0) cap _ each
  have hget : ∀ i, i < cap → (zs.map (·.1)).getD i z53 = (zs.getD i (z53, 0, 0)).1 := by
    intro i hi
    simp [List.getD_eq_getElem?_getD, List.getElem?_map, List.getElem?_eq_getElem (show i < zs.length by omega)]
  have hmem : ∀ z, z ∈ zs → ∃ b, PlanAt W b z := by
    intro z h
    obtain ⟨i, hi, rfl⟩ := List.mem_iff_getElem.1 h
    have := hz i (by omega)
    rw [List.getD_eq_getElem?_getD, List.getElem?_eq_getElem hi] at this
    exact ⟨_, this⟩
  have hl2 : ((zs.take len).map fun z => (⟨z.1.f0.take z.2.1, z.1.f1.take z.2.2⟩ : S53)).length = len := by simp; omega
  have hl3 : (zs.map (·.1)).length = cap := by simp; omega
  refine ⟨some a, (zs.take len).map fun z => ⟨z.1.f0.take z.2.1, z.1.f1.take z.2.2⟩, zs.map (·.1), by rw [hl2, hl3], by omega, by omega, ?_, ?_, ?_, ?_⟩
  · refine ⟨rfl, by omega, fun h0 => ⟨a, rfl, fun j p hj => ?_⟩⟩
    rw [List.getElem?_map, Option.map_eq_some_iff] at hj
    obtain ⟨z, hj, rfl⟩ := hj
    rw [List.getElem?_take] at hj
    split at hj
    rotate_left
    · cases hj
    rename_i hjl
    have hp := hz j (by omega)
    rw [List.getD_eq_getElem?_getD, hj, Option.getD_some] at hp
    obtain ⟨Al, Ar, h0, h1, hC0, hC1⟩ := hp.at_
    have t0 := C_take hC0 _ hp.nl
    have t1 := C_take hC1 _ hp.nr
    have n0 : (z.1.f0.take z.2.1).length = z.2.1 := by rw [List.length_take]; have := hp.nl; omega
    have n1 : (z.1.f1.take z.2.2).length = z.2.2 := by rw [List.length_take]; have := hp.nr; omega
    refine ⟨[.slice Al (z.1.f0.take z.2.1).length z.1.f0.length, .slice Ar (z.1.f1.take z.2.2).length z.1.f1.length], rfl, k53_mk W ⟨z.1.f0.take z.2.1, z.1.f1.take z.2.2⟩ (by rw [n0]; exact hp.nl) (by rw [n0]; exact t0) (by rw [n1]; exact hp.nr) (by rw [n1]; exact t1), ?_⟩
    rw [n0, n1]
    intro i u hu
    match i with
    | 0 =>
      obtain rfl := Option.some.inj hu
      rw [show k53.sz = 2 from rfl, Nat.add_zero]
      exact h0
    | 1 =>
      obtain rfl := Option.some.inj hu
      rw [show k53.sz = 2 from rfl, add_field a (j * 2) 1 (by omega)]
      exact h1
    | i + 2 => cases hu
  · intro i hi
    rw [hl3] at hi
    have hp := hz i hi
    obtain ⟨Al, Ar, h0, h1, hC0, hC1⟩ := hp.at_
    rw [hget i hi]
    exact ⟨a, Al, _, Ar, _, rfl, h0, h1, hp.nl, hp.nr, hC0, hC1⟩
  · intro y hy
    obtain ⟨z, hz, rfl⟩ := List.mem_map.1 hy
    obtain ⟨b, hp⟩ := hmem z hz
    exact ⟨hp.bl, hp.br⟩
  · intro y hy
    obtain ⟨z, hz, rfl⟩ := List.mem_map.1 hy
    obtain ⟨b, hp⟩ := hmem z (List.mem_of_mem_take hz)
    have := hp.bl
    have := hp.br
    exact ⟨fun x hx => hp.il x (List.mem_of_mem_take hx), fun x hx => hp.ir x (List.mem_of_mem_take hx), by rw [List.length_take]; omega, by rw [List.length_take]; omega⟩
end Go.Proofs.Ytdbeochifofdoaa.X
end

section
/-! Cases that come in, and lists of numbers. -/
namespace Go.Proofs.Ytdbeochifofdoaa.X
open Go.ChangeShapes Go.WideShapes Go.RowKit Go.Proofs.YtdbeochifofdoaaW.PrintWords Go.Proofs.YtdbeochifofdoaaW.PrintLast Go.Proofs.YtdbeochifofdoaaW.PrintMore
set_option linter.unusedVariables false
set_option linter.unusedSimpArgs false

theorem open_case2 {H : Type} {enc : TypeId × Value → H} {W : World} {fuel : Nat} {cs : List Value} {x : DataW H × List MemPlace}
    (h : DataW.trod enc Try.prog W 0 (fun _ => true) true fuel 35 cs = some x) : ∃ a b : Int, cs = [.int .i64 a, .int .i64 b] ∧ (Lit.int .i64 a).wf = true ∧ (Lit.int .i64 b).wf = true := by
  obtain ⟨xs, n, _, rfl, hcs, hxs, hf⟩ := DataW.trod_struct Try.underlying35 h
  rw [show Try.prog.cellsOf 35 = 2 from by kernel_rfl] at hcs
  obtain ⟨c0, c1, rfl⟩ : ∃ c0 c1, cs = [c0, c1] := o_two_of hcs
  obtain ⟨x0, x1, rfl⟩ : ∃ c0 c1, xs = [c0, c1] := o_two_of hxs
  have e0 := hf 0 ⟨"Lot", 3, 0, false, "", "", 0⟩ rfl
  have e1 := hf 1 ⟨"Way", 3, 1, false, "", "", 8⟩ rfl
  rw [o_cells3] at e0 e1
  obtain ⟨a, q0, _, w0⟩ := DataW.trod_int Try.underlying3 e0
  obtain ⟨b, q1, _, w1⟩ := DataW.trod_int Try.underlying3 e1
  obtain rfl : c0 = .int .i64 a := by simpa using q0
  obtain rfl : c1 = .int .i64 b := by simpa using q1
  exact ⟨a, b, rfl, w0, w1⟩
set_option maxRecDepth 100000 in
theorem open_case {H : Type} {enc : TypeId × Value → H} {W : World} {r : Reach} {b0 : Nat} {v : Value} {d : DataW H} {ps : List MemPlace} (hv : Value.okWide Try.prog W r b0 35 v) (h : DataW.Trod enc Try.prog W 0 (fun _ => true) true 35 v d ps) :
    ∃ a b : Int, v = .agg #[.int .i64 a, .int .i64 b] ∧ (Lit.int .i64 a).wf = true ∧ (Lit.int .i64 b).wf = true := by
  obtain ⟨cs, rfl, _⟩ := okWide_struct Try.underlying35 hv
  obtain ⟨fuel, hf⟩ := h
  obtain ⟨a, b, e, w0, w1⟩ := open_case2 hf
  have e2 : cs = #[.int .i64 a, .int .i64 b] := Array.toList_inj.1 e
  exact ⟨a, b, by rw [e2], w0, w1⟩
theorem o_underlying38 : Try.prog.underlying 38 = Try.prog.underlying 37 := by kernel_rfl
set_option maxRecDepth 100000 in
theorem open_two {H : Type} {enc : TypeId × Value → H} {W : World} {r : Reach} {b0 : Nat} {v : Value} {d : DataW H} {ps : List MemPlace} (hv : Value.okWide Try.prog W r b0 38 v) (h : DataW.Trod enc Try.prog W 0 (fun _ => true) true 38 v d ps) :
    ∃ a b c d : Int, v = .agg #[.int .i64 a, .int .i64 b, .int .i64 c, .int .i64 d] := by
  have hu := o_underlying38.trans Try.underlying37
  obtain ⟨cs, rfl, _⟩ := okWide_struct hu hv
  obtain ⟨fuel, hf⟩ := h
  obtain ⟨xs, n, _, _, hcs, hxs, hf⟩ := DataW.trod_struct hu hf
  obtain ⟨x0, x1, rfl⟩ : ∃ c0 c1, xs = [c0, c1] := o_two_of hxs
  have e0 := hf 0 ⟨"C", 35, 0, false, "", "", 0⟩ rfl
  have e1 := hf 1 ⟨"D", 35, 2, false, "", "", 16⟩ rfl
  rw [show Try.prog.cellsOf 38 = 4 from by kernel_rfl] at hcs
  rw [show Try.prog.cellsOf 35 = 2 from by kernel_rfl] at e0 e1
  obtain ⟨a, b, q0, _, _⟩ := open_case2 e0
  obtain ⟨c, d, q1, _, _⟩ := open_case2 e1
  refine ⟨a, b, c, d, ?_⟩
  have hc : cs.toList = [.int .i64 a, .int .i64 b, .int .i64 c, .int .i64 d] := by
    have h1 : cs.toList.take 2 = [.int .i64 a, .int .i64 b] := q0
    have h2 : cs.toList.drop 2 = [.int .i64 c, .int .i64 d] := by
      have : (cs.toList.drop 2).take 2 = [.int .i64 c, .int .i64 d] := q1
      rwa [List.take_of_length_le (by rw [List.length_drop]; simp only [Value.cells] at hcs; omega)] at this
    rw [← List.take_append_drop 2 cs.toList, h1, h2]
    rfl
  have e2 : cs = #[.int .i64 a, .int .i64 b, .int .i64 c, .int .i64 d] := Array.toList_inj.1 hc
  rw [e2]
/-- A list of numbers that comes in, up to its length and up to its capacity. -/
theorem open_nums {H : Type} {enc : TypeId × Value → H} {W : World} {v : Value} {d : DataW H} {ps : List MemPlace} (h : DataW.Trod enc Try.prog W 0 (fun _ => true) true 43 v d ps) (hv : v.cells = #[v])
    (hsz : ∀ n ∈ d.weights Try.prog 43, n ≤ reachBytes) :
    ∃ (A : Option Addr) (l ys : List Int), v = .slice A l.length ys.length ∧ l.length ≤ ys.length ∧ ys.length ≤ 17592186044416 ∧ Kd.C (Kd.int .i64) W A l.length l ∧ Kd.C (Kd.int .i64) W A ys.length ys ∧ ∀ x, x ∈ l → (Lit.int .i64 x).wf = true := by
  obtain ⟨fuel, hf⟩ := h
  rw [hv] at hf
  obtain ⟨A, n, ys, hcs, hn, hl, hC, hw⟩ := open_intsK o_underlying43 hf hsz
  obtain rfl : v = .slice A n ys.length := by simpa using hcs
  have e : (ys.take n).length = n := by rw [List.length_take]; omega
  refine ⟨A, ys.take n, ys, by rw [e], by omega, hl, ?_, hC, fun x hx => hw x (List.mem_of_mem_take hx)⟩
  rw [e]
  exact C_take hC n hn
end Go.Proofs.Ytdbeochifofdoaa.X
end

section
-- Written by a program of this session (wip/hook.py, which runs the kit's print.py with contracts proved by hand). Not trusted: Lean checks it.
namespace Go.Proofs.Ytdbeochifofdoaa.X
open Go.RowKit Go.Proofs.YtdbeochifofdoaaW.PrintWords Go.Proofs.YtdbeochifofdoaaW.PrintLast Go.Proofs.YtdbeochifofdoaaW.PrintMore
attribute [local go_sem] max2_int min2_int max_two min_two max_three min_three max_four min_four   -- for this text's walks alone
set_option linter.unusedVariables false
set_option linter.unusedSimpArgs false

/-! ### verditerref06_isBlank: function 81 -/
def verditerref06_isBlank.l0 : Nat → List Int → Int → Option (Bool)
  | 0, _, _ => none
  | k + 1, x0, x3 => if x3 < (x0.length : Int) then (if 0 ≤ x3 then (if (rd x0 x3) = 0 then (verditerref06_isBlank.l0 k x0 (wrap64 (x3 + 1))) else (some false)) else (none)) else (some true)
def verditerref06_isBlank.f (k : Nat) (l0 : List Int) : Option (Bool) := verditerref06_isBlank.l0 k l0 0
theorem verditerref06_isBlank.mono_l : ∀ k, (∀ y0 y1, LeO (verditerref06_isBlank.l0 k y0 y1) (verditerref06_isBlank.l0 (k + 1) y0 y1))
  | 0 => fun _ _ r h => by simp [verditerref06_isBlank.l0] at h
  | k + 1 => by
    have ih0 := verditerref06_isBlank.mono_l k
    · intro y0 y1
      unfold verditerref06_isBlank.l0
      repeat' first
      | (with_reducible exact ih0 _ _)
      | (with_reducible exact LeO.refl _)
      | (with_reducible exact LeO.none _)
      | (with_reducible refine LeO.ite ?_ ?_)
      | (with_reducible refine LeO.bind ?_ (fun _ => ?_))
      | exact ih0 _ _
      | exact LeO.none _
      | refine LeO.ite ?_ ?_
      | refine LeO.bind ?_ (fun _ => ?_)
theorem verditerref06_isBlank.mono : ∀ a0 k, LeO (verditerref06_isBlank.f k a0) (verditerref06_isBlank.f (k + 1) a0) := by
  intro a0 k
  have ih0 := verditerref06_isBlank.mono_l k
  unfold verditerref06_isBlank.f
  repeat' first
      | (with_reducible exact ih0 _ _)
      | (with_reducible exact LeO.refl _)
      | (with_reducible exact LeO.none _)
      | (with_reducible refine LeO.ite ?_ ?_)
      | (with_reducible refine LeO.bind ?_ (fun _ => ?_))
      | exact ih0 _ _
      | exact LeO.none _
      | refine LeO.ite ?_ ?_
      | refine LeO.bind ?_ (fun _ => ?_)
set_option maxHeartbeats 8000000 in
set_option maxRecDepth 100000 in
theorem verditerref06_isBlank.calls (k : Nat) (A0 : Option Addr) (c0 : Nat) (l0 : List Int) (r : Bool) (w : World) (hr0 : Kd.C (Kd.int .i64) w A0 l0.length l0) (hc0 : l0.length ≤ c0) (h : verditerref06_isBlank.f k l0 = some r) :
    Calls Try.prog 81 #[.slice A0 l0.length c0] w fun e w' => e = .returned (.bool r) ∧ Drawn0 w w' := by
  have HR0 := Aside0.mk hr0
  have HC0 := Aside0.mk hc0
  clear hr0 hc0
  have H : (verditerref06_isBlank.l0 k l0 0) = some r := h
  clear h
  have H' := Aside0.mk H
  clear H
  go_enter Try.func81, Try.ntmps81
  go_wp2
  go_loopg [3] k (fun kq v3 w' => ∃ (x3_1 : Int), v3 = .int .i64 x3_1 ∧ Aside0 (verditerref06_isBlank.l0 kq l0 x3_1 = some r) ∧ Aside0 (kq ≤ k) ∧ Drawn0 w w')
  case atStart => exact ⟨(0), (by first | rfl | (simp; done) | (simp [*]; done)), H', ⟨Nat.le_refl _⟩, by repeat (first | exact Drawn0.refl _ | apply Drawn0.step)⟩
  case round =>
    clear H'
    obtain ⟨x3_1, rfl, HA, HK1, ⟨m1, rfl⟩⟩ := hrel
    cases gk with
    | zero => exact absurd HA.out (by simp [verditerref06_isBlank.l0])
    | succ k1 =>
      have H := HA.out
      clear HA
      simp only [verditerref06_isBlank.l0] at H
      by_cases c2 : x3_1 < (l0.length : Int)
      · rw [if_pos c2] at H
        have c2b0 : decide (x3_1 < (l0.length : Int)) = true := decide_eq_true c2
        clear c2
        by_cases c3 : 0 ≤ x3_1
        · rw [if_pos c3] at H
          have c3b0 : decide (0 ≤ x3_1) = true := decide_eq_true c3
          clear c3
          by_cases c4 : (rd l0 x3_1) = 0
          · rw [if_pos c4] at H
            have c4b0 : ((rd l0 x3_1) == 0) = true := beq_iff_eq.mpr c4
            have c4b1 : ((rd l0 x3_1) != 0) = false := bne_eq_false_iff_eq.mpr c4
            clear c4
            have H' := Aside0.mk H
            clear H
            have p218 : 0 ≤ (x3_1 : Int) := of_decide_eq_true (by first | (with_reducible assumption) | assumption)
            have q218 : x3_1 < (l0.length : Int) := of_decide_eq_true (by first | (with_reducible assumption) | assumption)
            obtain ⟨ad218, e218, hx218_0⟩ := Kd.at_int HR0.out x3_1 p218 q218
            cases e218
            replace p218 := eq_true p218
            replace q218 := eq_true q218
            go_wp2
            go_roundg k1
            case measure => have := HK1.out; omega
            case rel => exact ⟨(wrap64 (x3_1 + 1)), (by first | rfl | (simp; done) | (simp [*]; done)), H', ⟨by have := HK1.out; omega⟩, by repeat (first | exact Drawn0.refl _ | apply Drawn0.step)⟩
          · rw [if_neg c4] at H
            have c4b0 : ((rd l0 x3_1) == 0) = false := beq_eq_false_iff_ne.mpr c4
            have c4b1 : ((rd l0 x3_1) != 0) = true := bne_iff_ne.mpr c4
            obtain rfl := Option.some.inj H
            have p218 : 0 ≤ (x3_1 : Int) := of_decide_eq_true (by first | (with_reducible assumption) | assumption)
            have q218 : x3_1 < (l0.length : Int) := of_decide_eq_true (by first | (with_reducible assumption) | assumption)
            obtain ⟨ad218, e218, hx218_0⟩ := Kd.at_int HR0.out x3_1 p218 q218
            cases e218
            replace p218 := eq_true p218
            replace q218 := eq_true q218
            go_wp2
            go_ret
            exact ⟨by first | rfl | (simp; done) | (simp [*]; done), by repeat (first | exact Drawn0.refl _ | apply Drawn0.step)⟩
        · rw [if_neg c3] at H
          exact absurd H (by simp)
      · rw [if_neg c2] at H
        have c2b0 : decide (x3_1 < (l0.length : Int)) = false := decide_eq_false c2
        clear c2
        obtain rfl := Option.some.inj H
        go_wp2
        go_ret
        exact ⟨by first | rfl | (simp; done) | (simp [*]; done), by repeat (first | exact Drawn0.refl _ | apply Drawn0.step)⟩

end Go.Proofs.Ytdbeochifofdoaa.X
end

section
-- Written by a program of this session (wip/hook.py, which runs the kit's print.py with contracts proved by hand). Not trusted: Lean checks it.
namespace Go.Proofs.Ytdbeochifofdoaa.X
open Go.RowKit Go.Proofs.YtdbeochifofdoaaW.PrintWords Go.Proofs.YtdbeochifofdoaaW.PrintLast Go.Proofs.YtdbeochifofdoaaW.PrintMore
attribute [local go_sem] max2_int min2_int max_two min_two max_three min_three max_four min_four   -- for this text's walks alone
set_option linter.unusedVariables false
set_option linter.unusedSimpArgs false

/-! ### verditerref06_tells: function 62 -/
mutual
def verditerref06_tells.l0 : Nat → Int → List (S53) → Int → Option (Bool)
  | 0, _, _, _ => none
  | k + 1, x0, x1, x5 => if x5 < x0 then ((verditerref06_mark.f k x1 x5).bind fun t219 => ((verditerref06_isBlank.f k t219).bind fun t222 => (if t222 = true then (some false) else (verditerref06_tells.l1 k x0 x1 x5 t219 0)))) else (some true)
def verditerref06_tells.l1 : Nat → Int → List (S53) → Int → List Int → Int → Option (Bool)
  | 0, _, _, _, _, _ => none
  | k + 1, x0, x1, x5, x6, x7 => if x7 < x5 then ((verditerref06_mark.f k x1 x7).bind fun t223 => ((verditerref06_SameInts.f k x6 t223).bind fun t226 => (if t226 = true then (some false) else ((verditerref06_mark.f k x1 x7).bind fun t227 => ((verditerref06_times.f k t227 (-1)).bind fun t230 => ((verditerref06_SameInts.f k x6 t230).bind fun t233 => (if t233 = true then (some false) else (verditerref06_tells.l1 k x0 x1 x5 x6 (wrap64 (x7 + 1)))))))))) else (verditerref06_tells.l0 k x0 x1 (wrap64 (x5 + 1)))
end
def verditerref06_tells.f (k : Nat) (a0 : Int) (l1 : List (S53)) : Option (Bool) := verditerref06_tells.l0 k a0 l1 0
theorem verditerref06_tells.mono_l : ∀ k, (∀ y0 y1 y2, LeO (verditerref06_tells.l0 k y0 y1 y2) (verditerref06_tells.l0 (k + 1) y0 y1 y2)) ∧ (∀ y0 y1 y2 y3 y4, LeO (verditerref06_tells.l1 k y0 y1 y2 y3 y4) (verditerref06_tells.l1 (k + 1) y0 y1 y2 y3 y4))
  | 0 => ⟨fun _ _ _ r h => by simp [verditerref06_tells.l0] at h, fun _ _ _ _ _ r h => by simp [verditerref06_tells.l1] at h⟩
  | k + 1 => by
    obtain ⟨ih0, ih1⟩ := verditerref06_tells.mono_l k
    refine ⟨?_, ?_⟩
    · intro y0 y1 y2
      unfold verditerref06_tells.l0
      repeat' first
      | (with_reducible exact ih0 _ _ _)
      | (with_reducible exact ih1 _ _ _ _ _)
      | (with_reducible exact verditerref06_SameInts.mono _ _ _)
      | (with_reducible exact verditerref06_isBlank.mono _ _)
      | (with_reducible exact verditerref06_mark.mono _ _ _)
      | (with_reducible exact verditerref06_times.mono _ _ _)
      | (with_reducible exact LeO.refl _)
      | (with_reducible exact LeO.none _)
      | (with_reducible refine LeO.ite ?_ ?_)
      | (with_reducible refine LeO.bind ?_ (fun _ => ?_))
      | exact ih0 _ _ _
      | exact ih1 _ _ _ _ _
      | exact verditerref06_SameInts.mono _ _ _
      | exact verditerref06_isBlank.mono _ _
      | exact verditerref06_mark.mono _ _ _
      | exact verditerref06_times.mono _ _ _
      | exact LeO.none _
      | refine LeO.ite ?_ ?_
      | refine LeO.bind ?_ (fun _ => ?_)
    · intro y0 y1 y2 y3 y4
      unfold verditerref06_tells.l1
      repeat' first
      | (with_reducible exact ih0 _ _ _)
      | (with_reducible exact ih1 _ _ _ _ _)
      | (with_reducible exact verditerref06_SameInts.mono _ _ _)
      | (with_reducible exact verditerref06_isBlank.mono _ _)
      | (with_reducible exact verditerref06_mark.mono _ _ _)
      | (with_reducible exact verditerref06_times.mono _ _ _)
      | (with_reducible exact LeO.refl _)
      | (with_reducible exact LeO.none _)
      | (with_reducible refine LeO.ite ?_ ?_)
      | (with_reducible refine LeO.bind ?_ (fun _ => ?_))
      | exact ih0 _ _ _
      | exact ih1 _ _ _ _ _
      | exact verditerref06_SameInts.mono _ _ _
      | exact verditerref06_isBlank.mono _ _
      | exact verditerref06_mark.mono _ _ _
      | exact verditerref06_times.mono _ _ _
      | exact LeO.none _
      | refine LeO.ite ?_ ?_
      | refine LeO.bind ?_ (fun _ => ?_)
theorem verditerref06_tells.mono : ∀ a0 a1 k, LeO (verditerref06_tells.f k a0 a1) (verditerref06_tells.f (k + 1) a0 a1) := by
  intro a0 a1 k
  obtain ⟨ih0, ih1⟩ := verditerref06_tells.mono_l k
  unfold verditerref06_tells.f
  repeat' first
      | (with_reducible exact ih0 _ _ _)
      | (with_reducible exact ih1 _ _ _ _ _)
      | (with_reducible exact verditerref06_SameInts.mono _ _ _)
      | (with_reducible exact verditerref06_isBlank.mono _ _)
      | (with_reducible exact verditerref06_mark.mono _ _ _)
      | (with_reducible exact verditerref06_times.mono _ _ _)
      | (with_reducible exact LeO.refl _)
      | (with_reducible exact LeO.none _)
      | (with_reducible refine LeO.ite ?_ ?_)
      | (with_reducible refine LeO.bind ?_ (fun _ => ?_))
      | exact ih0 _ _ _
      | exact ih1 _ _ _ _ _
      | exact verditerref06_SameInts.mono _ _ _
      | exact verditerref06_isBlank.mono _ _
      | exact verditerref06_mark.mono _ _ _
      | exact verditerref06_times.mono _ _ _
      | exact LeO.none _
      | refine LeO.ite ?_ ?_
      | refine LeO.bind ?_ (fun _ => ?_)
set_option maxHeartbeats 8000000 in
set_option maxRecDepth 100000 in
theorem verditerref06_tells.calls (k : Nat) (a0 : Int) (A1 : Option Addr) (c1 : Nat) (l1 : List (S53)) (r : Bool) (w : World) (hr1 : Kd.C k53 w A1 l1.length l1) (hc1 : l1.length ≤ c1) (h : verditerref06_tells.f k a0 l1 = some r) :
    Calls Try.prog 62 #[.int .i64 a0, .slice A1 l1.length c1] w fun e w' => e = .returned (.bool r) ∧ Below w.heap.size w w' := by
  have HR1 := Aside0.mk hr1
  have HC1 := Aside0.mk hc1
  clear hr1 hc1
  have HB := Aside0.mk (Below.refl w.heap.size w)
  have H : (verditerref06_tells.l0 k a0 l1 0) = some r := h
  clear h
  have H' := Aside0.mk H
  clear H
  go_enter Try.func62, Try.ntmps62
  go_wp2
  go_loopg [5] k (fun kq v5 w' => ∃ (x5_1 : Int), v5 = .int .i64 x5_1 ∧ Aside0 (verditerref06_tells.l0 kq a0 l1 x5_1 = some r) ∧ Aside0 (kq ≤ k) ∧ Aside0 (Below w.heap.size w w'))
  case atStart => exact ⟨(0), (by first | rfl | (simp; done) | (simp [*]; done)), H', ⟨Nat.le_refl _⟩, ⟨by repeat (first | (with_reducible first | exact HB.out | apply below_alloc | apply pw_below_drewN | apply below_drew1) | exact HB.out)⟩⟩
  case round =>
    clear H'
    try clear c1
    try clear p2
    obtain ⟨x5_1, rfl, HA, HK1, HB⟩ := hrel
    cases gk with
    | zero => exact absurd HA.out (by simp [verditerref06_tells.l0])
    | succ k1 =>
      have H := HA.out
      clear HA
      simp only [verditerref06_tells.l0] at H
      by_cases c3 : x5_1 < a0
      · rw [if_pos c3] at H
        have c3b0 : decide (x5_1 < a0) = true := decide_eq_true c3
        clear c3
        replace H := Option.bind_eq_some_iff.mp H
        obtain ⟨t219, A40, H⟩ := H
        replace H : ((verditerref06_isBlank.f k1 t219).bind fun t222 => (if t222 = true then (some false) else (verditerref06_tells.l1 k1 a0 l1 x5_1 t219 0))) = some r := H
        have A4 := Aside0.mk A40
        clear A40
        replace H := Option.bind_eq_some_iff.mp H
        obtain ⟨t222, A50, H⟩ := H
        replace H : (if t222 = true then (some false) else (verditerref06_tells.l1 k1 a0 l1 x5_1 t219 0)) = some r := H
        have A5 := Aside0.mk A50
        clear A50
        by_cases c6 : t222 = true
        · subst c6
          have H1 : (some false) = some r := by rw [if_pos rfl] at H; exact H
          clear H
          have H := H1
          clear H1
          obtain rfl := Option.some.inj H
          go_wp2_with (first | ((with_reducible refine gate_callee (f := 80) rfl ?_); refine goesL_ (some 15) rfl rfl Try.func80 (by kernel_rfl) rfl #[.slice A1 l1.length c1, .int .i64 x5_1] rfl (by (try simp only [List.map_toArray, List.map_cons, List.map_nil]); first | done | rfl | (simp only [List.length_drop, List.length_take]; rfl)) ?_; (with_reducible refine (verditerref06_mark.calls k1 _ _ l1 x5_1 t219 _ ?side1 ?side2 A4.out).mono ?_); (case side1 => repeat (first | exact (Kd.C_below HR1.out HB.out) | (with_reducible refine Kd.C_alloc ?_ _) | (with_reducible refine Kd.C_drewN ?_ _) | (with_reducible refine Kd.C_drew ?_))); (case side2 => exact HC1.out); rintro e w7 ⟨v220, rfl, ho0, hb⟩; refine ⟨_, rfl, ?_⟩; have n0_ := Aside0.mk (Kd.R_lower ho0 (below_size (by repeat (first | (with_reducible first | exact HB.out | apply below_alloc | apply pw_below_drewN | apply below_drew1) | exact HB.out)))); have n1_ := Aside0.mk (below_step (by repeat (first | (with_reducible first | exact HB.out | apply below_alloc | apply pw_below_drewN | apply below_drew1) | exact HB.out)) hb); clear HB; have HO221 := n0_; have HB := n1_; clear n0_ n1_; (try clear hb); (try clear hb2); (try clear hk); (try clear hi); (try clear ho0); obtain ⟨Ao8, co8, eo8⟩ := Kd.R_slice HO221.out; subst eo8) | ((with_reducible refine gate_callee (f := 81) rfl ?_); refine goesL_ (some 17) rfl rfl Try.func81 (by kernel_rfl) rfl #[.slice Ao8 t219.length co8] rfl (by (try simp only [List.map_toArray, List.map_cons, List.map_nil]); first | done | rfl | (simp only [List.length_drop, List.length_take]; rfl)) ?_; (with_reducible refine (verditerref06_isBlank.calls k1 _ _ t219 true _ ?side1 ?side2 A5.out).mono ?_); (case side1 => repeat (first | exact (Kd.R_reads' HO221.out).2.2 | (with_reducible refine Kd.C_alloc ?_ _) | (with_reducible refine Kd.C_drewN ?_ _) | (with_reducible refine Kd.C_drew ?_))); (case side2 => exact (Kd.R_reads' HO221.out).2.1); rintro e w' ⟨rfl, ⟨nd, rfl⟩⟩; refine ⟨_, rfl, ?_⟩))
          go_ret
          exact ⟨by first | rfl | (simp [errW_none, errW_some] <;> rfl) | (simp [*, errW_none, errW_some] <;> rfl), by repeat (first | (with_reducible first | exact HB.out | apply below_alloc | apply pw_below_drewN | apply below_drew1) | exact HB.out)⟩
        · replace c6 := Bool.eq_false_iff.mpr c6
          subst c6
          have H1 : (verditerref06_tells.l1 k1 a0 l1 x5_1 t219 0) = some r := by rw [if_neg (show ¬ (false = true) by decide)] at H; exact H
          clear H
          have H := H1
          clear H1
          have H' := Aside0.mk H
          clear H
          go_wp2_with (first | ((with_reducible refine gate_callee (f := 80) rfl ?_); refine goesL_ (some 15) rfl rfl Try.func80 (by kernel_rfl) rfl #[.slice A1 l1.length c1, .int .i64 x5_1] rfl (by (try simp only [List.map_toArray, List.map_cons, List.map_nil]); first | done | rfl | (simp only [List.length_drop, List.length_take]; rfl)) ?_; (with_reducible refine (verditerref06_mark.calls k1 _ _ l1 x5_1 t219 _ ?side1 ?side2 A4.out).mono ?_); (case side1 => repeat (first | exact (Kd.C_below HR1.out HB.out) | (with_reducible refine Kd.C_alloc ?_ _) | (with_reducible refine Kd.C_drewN ?_ _) | (with_reducible refine Kd.C_drew ?_))); (case side2 => exact HC1.out); rintro e w9 ⟨v220, rfl, ho0, hb⟩; refine ⟨_, rfl, ?_⟩; have n0_ := Aside0.mk (Kd.R_lower ho0 (below_size (by repeat (first | (with_reducible first | exact HB.out | apply below_alloc | apply pw_below_drewN | apply below_drew1) | exact HB.out)))); have n1_ := Aside0.mk (below_step (by repeat (first | (with_reducible first | exact HB.out | apply below_alloc | apply pw_below_drewN | apply below_drew1) | exact HB.out)) hb); clear HB; have HO221 := n0_; have HB := n1_; clear n0_ n1_; (try clear hb); (try clear hb2); (try clear hk); (try clear hi); (try clear ho0); obtain ⟨Ao10, co10, eo10⟩ := Kd.R_slice HO221.out; subst eo10) | ((with_reducible refine gate_callee (f := 81) rfl ?_); refine goesL_ (some 17) rfl rfl Try.func81 (by kernel_rfl) rfl #[.slice Ao10 t219.length co10] rfl (by (try simp only [List.map_toArray, List.map_cons, List.map_nil]); first | done | rfl | (simp only [List.length_drop, List.length_take]; rfl)) ?_; (with_reducible refine (verditerref06_isBlank.calls k1 _ _ t219 false _ ?side1 ?side2 A5.out).mono ?_); (case side1 => repeat (first | exact (Kd.R_reads' HO221.out).2.2 | (with_reducible refine Kd.C_alloc ?_ _) | (with_reducible refine Kd.C_drewN ?_ _) | (with_reducible refine Kd.C_drew ?_))); (case side2 => exact (Kd.R_reads' HO221.out).2.1); rintro e w' ⟨rfl, ⟨nd, rfl⟩⟩; refine ⟨_, rfl, ?_⟩))
          go_loopg [7] k1 (fun kq v7 w' => ∃ (x7_2 : Int), v7 = .int .i64 x7_2 ∧ Aside0 (verditerref06_tells.l1 kq a0 l1 x5_1 t219 x7_2 = some r) ∧ Aside0 (kq ≤ k1) ∧ Aside0 (Kd.R (Kd.int .i64) 3 w' w.heap.size (fun _ => True) (.slice Ao10 t219.length co10) t219) ∧ Aside0 (Below w.heap.size w w'))
          case atStart => exact ⟨(0), (by first | rfl | (simp; done) | (simp [*]; done)), H', ⟨Nat.le_refl _⟩, ⟨by (with_reducible repeat (first | apply Kd.R_alloc | apply Kd.R_drewN | apply Kd.R_drew)); exact HO221.out⟩, ⟨by repeat (first | (with_reducible first | exact HB.out | apply below_alloc | apply pw_below_drewN | apply below_drew1) | exact HB.out)⟩⟩
          case round =>
            clear H'
            try clear c1
            try clear p2
            try clear c3
            try clear c3b0
            try clear c6
            try clear c8
            try clear p2
            obtain ⟨x7_2, rfl, HA, HK2, HO_6, HB⟩ := hrel
            cases gk with
            | zero => exact absurd HA.out (by simp [verditerref06_tells.l1])
            | succ k2 =>
              have H := HA.out
              clear HA
              simp only [verditerref06_tells.l1] at H
              by_cases c11 : x7_2 < x5_1
              · rw [if_pos c11] at H
                have c11b0 : decide (x7_2 < x5_1) = true := decide_eq_true c11
                clear c11
                replace H := Option.bind_eq_some_iff.mp H
                obtain ⟨t223, A120, H⟩ := H
                replace H : ((verditerref06_SameInts.f k2 t219 t223).bind fun t226 => (if t226 = true then (some false) else ((verditerref06_mark.f k2 l1 x7_2).bind fun t227 => ((verditerref06_times.f k2 t227 (-1)).bind fun t230 => ((verditerref06_SameInts.f k2 t219 t230).bind fun t233 => (if t233 = true then (some false) else (verditerref06_tells.l1 k2 a0 l1 x5_1 t219 (wrap64 (x7_2 + 1))))))))) = some r := H
                have A12 := Aside0.mk A120
                clear A120
                replace H := Option.bind_eq_some_iff.mp H
                obtain ⟨t226, A130, H⟩ := H
                replace H : (if t226 = true then (some false) else ((verditerref06_mark.f k2 l1 x7_2).bind fun t227 => ((verditerref06_times.f k2 t227 (-1)).bind fun t230 => ((verditerref06_SameInts.f k2 t219 t230).bind fun t233 => (if t233 = true then (some false) else (verditerref06_tells.l1 k2 a0 l1 x5_1 t219 (wrap64 (x7_2 + 1)))))))) = some r := H
                have A13 := Aside0.mk A130
                clear A130
                by_cases c14 : t226 = true
                · subst c14
                  have H1 : (some false) = some r := by rw [if_pos rfl] at H; exact H
                  clear H
                  have H := H1
                  clear H1
                  obtain rfl := Option.some.inj H
                  go_wp2_with (first | ((with_reducible refine gate_callee (f := 80) rfl ?_); refine goesL_ (some 26) rfl rfl Try.func80 (by kernel_rfl) rfl #[.slice A1 l1.length c1, .int .i64 x7_2] rfl (by (try simp only [List.map_toArray, List.map_cons, List.map_nil]); first | done | rfl | (simp only [List.length_drop, List.length_take]; rfl)) ?_; (with_reducible refine (verditerref06_mark.calls k2 _ _ l1 x7_2 t223 _ ?side1 ?side2 A12.out).mono ?_); (case side1 => repeat (first | exact (Kd.C_below HR1.out HB.out) | (with_reducible refine Kd.C_alloc ?_ _) | (with_reducible refine Kd.C_drewN ?_ _) | (with_reducible refine Kd.C_drew ?_))); (case side2 => exact HC1.out); rintro e w15 ⟨v224, rfl, ho0, hb⟩; refine ⟨_, rfl, ?_⟩; have n0_ := Aside0.mk (Kd.R_elder' (by (with_reducible repeat (first | apply Kd.R_alloc | apply Kd.R_drewN | apply Kd.R_drew)); exact HO_6.out) (Kd.R_base ho0) hb); have n1_ := Aside0.mk (Kd.R_lower (Kd.R_new' ho0 (Kd.R_lt (by (with_reducible repeat (first | apply Kd.R_alloc | apply Kd.R_drewN | apply Kd.R_drew)); exact HO_6.out))) (below_size (by repeat (first | (with_reducible first | exact HB.out | apply below_alloc | apply pw_below_drewN | apply below_drew1) | exact HB.out)))); have n2_ := Aside0.mk (below_step (by repeat (first | (with_reducible first | exact HB.out | apply below_alloc | apply pw_below_drewN | apply below_drew1) | exact HB.out)) hb); clear HO_6; clear HB; have HO_6 := n0_; have HO225 := n1_; have HB := n2_; clear n0_ n1_ n2_; (try clear hb); (try clear hb2); (try clear hk); (try clear hi); (try clear ho0); obtain ⟨Ao16, co16, eo16⟩ := Kd.R_slice HO225.out; subst eo16) | ((with_reducible refine gate_callee (f := 60) rfl ?_); refine goesL_ (some 27) rfl rfl Try.func60 (by kernel_rfl) rfl #[.slice Ao10 t219.length co10, .slice Ao16 t223.length co16] rfl (by (try simp only [List.map_toArray, List.map_cons, List.map_nil]); first | done | rfl | (simp only [List.length_drop, List.length_take]; rfl)) ?_; (with_reducible refine (verditerref06_SameInts.calls k2 _ _ t219 _ _ t223 true _ ?side1 ?side2 ?side3 ?side4 A13.out).mono ?_); (case side1 => repeat (first | exact (Kd.R_reads' HO_6.out).2.2 | (with_reducible refine Kd.C_alloc ?_ _) | (with_reducible refine Kd.C_drewN ?_ _) | (with_reducible refine Kd.C_drew ?_))); (case side2 => exact (Kd.R_reads' HO_6.out).2.1); (case side3 => repeat (first | exact (Kd.R_reads' HO225.out).2.2 | (with_reducible refine Kd.C_alloc ?_ _) | (with_reducible refine Kd.C_drewN ?_ _) | (with_reducible refine Kd.C_drew ?_))); (case side4 => exact (Kd.R_reads' HO225.out).2.1); rintro e w' ⟨rfl, ⟨nd, rfl⟩⟩; refine ⟨_, rfl, ?_⟩))
                  go_ret
                  exact ⟨by first | rfl | (simp [errW_none, errW_some] <;> rfl) | (simp [*, errW_none, errW_some] <;> rfl), by repeat (first | (with_reducible first | exact HB.out | apply below_alloc | apply pw_below_drewN | apply below_drew1) | exact HB.out)⟩
                · replace c14 := Bool.eq_false_iff.mpr c14
                  subst c14
                  have H1 : ((verditerref06_mark.f k2 l1 x7_2).bind fun t227 => ((verditerref06_times.f k2 t227 (-1)).bind fun t230 => ((verditerref06_SameInts.f k2 t219 t230).bind fun t233 => (if t233 = true then (some false) else (verditerref06_tells.l1 k2 a0 l1 x5_1 t219 (wrap64 (x7_2 + 1))))))) = some r := by rw [if_neg (show ¬ (false = true) by decide)] at H; exact H
                  clear H
                  have H := H1
                  clear H1
                  replace H := Option.bind_eq_some_iff.mp H
                  obtain ⟨t227, A170, H⟩ := H
                  replace H : ((verditerref06_times.f k2 t227 (-1)).bind fun t230 => ((verditerref06_SameInts.f k2 t219 t230).bind fun t233 => (if t233 = true then (some false) else (verditerref06_tells.l1 k2 a0 l1 x5_1 t219 (wrap64 (x7_2 + 1)))))) = some r := H
                  have A17 := Aside0.mk A170
                  clear A170
                  replace H := Option.bind_eq_some_iff.mp H
                  obtain ⟨t230, A180, H⟩ := H
                  replace H : ((verditerref06_SameInts.f k2 t219 t230).bind fun t233 => (if t233 = true then (some false) else (verditerref06_tells.l1 k2 a0 l1 x5_1 t219 (wrap64 (x7_2 + 1))))) = some r := H
                  have A18 := Aside0.mk A180
                  clear A180
                  replace H := Option.bind_eq_some_iff.mp H
                  obtain ⟨t233, A190, H⟩ := H
                  replace H : (if t233 = true then (some false) else (verditerref06_tells.l1 k2 a0 l1 x5_1 t219 (wrap64 (x7_2 + 1)))) = some r := H
                  have A19 := Aside0.mk A190
                  clear A190
                  by_cases c20 : t233 = true
                  · subst c20
                    have H1 : (some false) = some r := by rw [if_pos rfl] at H; exact H
                    clear H
                    have H := H1
                    clear H1
                    obtain rfl := Option.some.inj H
                    go_wp2_with (first | ((with_reducible refine gate_callee (f := 80) rfl ?_); refine goesL_ (some 26) rfl rfl Try.func80 (by kernel_rfl) rfl #[.slice A1 l1.length c1, .int .i64 x7_2] rfl (by (try simp only [List.map_toArray, List.map_cons, List.map_nil]); first | done | rfl | (simp only [List.length_drop, List.length_take]; rfl)) ?_; (with_reducible refine (verditerref06_mark.calls k2 _ _ l1 x7_2 t223 _ ?side1 ?side2 A12.out).mono ?_); (case side1 => repeat (first | exact (Kd.C_below HR1.out HB.out) | (with_reducible refine Kd.C_alloc ?_ _) | (with_reducible refine Kd.C_drewN ?_ _) | (with_reducible refine Kd.C_drew ?_))); (case side2 => exact HC1.out); rintro e w21 ⟨v224, rfl, ho0, hb⟩; refine ⟨_, rfl, ?_⟩; have n0_ := Aside0.mk (Kd.R_elder' (by (with_reducible repeat (first | apply Kd.R_alloc | apply Kd.R_drewN | apply Kd.R_drew)); exact HO_6.out) (Kd.R_base ho0) hb); have n1_ := Aside0.mk (Kd.R_lower (Kd.R_new' ho0 (Kd.R_lt (by (with_reducible repeat (first | apply Kd.R_alloc | apply Kd.R_drewN | apply Kd.R_drew)); exact HO_6.out))) (below_size (by repeat (first | (with_reducible first | exact HB.out | apply below_alloc | apply pw_below_drewN | apply below_drew1) | exact HB.out)))); have n2_ := Aside0.mk (below_step (by repeat (first | (with_reducible first | exact HB.out | apply below_alloc | apply pw_below_drewN | apply below_drew1) | exact HB.out)) hb); clear HO_6; clear HB; have HO_6 := n0_; have HO225 := n1_; have HB := n2_; clear n0_ n1_ n2_; (try clear hb); (try clear hb2); (try clear hk); (try clear hi); (try clear ho0); obtain ⟨Ao22, co22, eo22⟩ := Kd.R_slice HO225.out; subst eo22) | ((with_reducible refine gate_callee (f := 60) rfl ?_); refine goesL_ (some 27) rfl rfl Try.func60 (by kernel_rfl) rfl #[.slice Ao10 t219.length co10, .slice Ao22 t223.length co22] rfl (by (try simp only [List.map_toArray, List.map_cons, List.map_nil]); first | done | rfl | (simp only [List.length_drop, List.length_take]; rfl)) ?_; (with_reducible refine (verditerref06_SameInts.calls k2 _ _ t219 _ _ t223 false _ ?side1 ?side2 ?side3 ?side4 A13.out).mono ?_); (case side1 => repeat (first | exact (Kd.R_reads' HO_6.out).2.2 | (with_reducible refine Kd.C_alloc ?_ _) | (with_reducible refine Kd.C_drewN ?_ _) | (with_reducible refine Kd.C_drew ?_))); (case side2 => exact (Kd.R_reads' HO_6.out).2.1); (case side3 => repeat (first | exact (Kd.R_reads' HO225.out).2.2 | (with_reducible refine Kd.C_alloc ?_ _) | (with_reducible refine Kd.C_drewN ?_ _) | (with_reducible refine Kd.C_drew ?_))); (case side4 => exact (Kd.R_reads' HO225.out).2.1); rintro e w' ⟨rfl, ⟨nd, rfl⟩⟩; refine ⟨_, rfl, ?_⟩) | (go_at_call 80; (with_reducible refine (verditerref06_mark.calls k2 _ _ l1 x7_2 t227 _ ?side1 ?side2 A17.out).mono ?_); (case side1 => repeat (first | exact (Kd.C_below HR1.out (by repeat (first | (with_reducible first | exact HB.out | apply below_alloc | apply pw_below_drewN | apply below_drew1) | exact HB.out))) | (with_reducible refine Kd.C_alloc ?_ _) | (with_reducible refine Kd.C_drewN ?_ _) | (with_reducible refine Kd.C_drew ?_))); (case side2 => exact HC1.out); rintro e w23 ⟨v228, rfl, ho0, hb⟩; have n0_ := Aside0.mk (Kd.R_elder' (by (with_reducible repeat (first | apply Kd.R_alloc | apply Kd.R_drewN | apply Kd.R_drew)); exact HO_6.out) (Kd.R_base ho0) hb); have n1_ := Aside0.mk (Kd.R_elder' (by (with_reducible repeat (first | apply Kd.R_alloc | apply Kd.R_drewN | apply Kd.R_drew)); exact HO225.out) (Kd.R_base ho0) hb); have n2_ := Aside0.mk (Kd.R_lower (Kd.R_new' (Kd.R_new' ho0 (Kd.R_lt (by (with_reducible repeat (first | apply Kd.R_alloc | apply Kd.R_drewN | apply Kd.R_drew)); exact HO_6.out))) (Kd.R_lt (by (with_reducible repeat (first | apply Kd.R_alloc | apply Kd.R_drewN | apply Kd.R_drew)); exact HO225.out))) (below_size (by repeat (first | (with_reducible first | exact HB.out | apply below_alloc | apply pw_below_drewN | apply below_drew1) | exact HB.out)))); have n3_ := Aside0.mk (below_step (by repeat (first | (with_reducible first | exact HB.out | apply below_alloc | apply pw_below_drewN | apply below_drew1) | exact HB.out)) hb); clear HO_6; clear HO225; clear HB; have HO_6 := n0_; have HO225 := n1_; have HO229 := n2_; have HB := n3_; clear n0_ n1_ n2_ n3_; (try clear hb); (try clear hb2); (try clear hk); (try clear hi); (try clear ho0); obtain ⟨Ao24, co24, eo24⟩ := Kd.R_slice HO229.out; subst eo24) | (go_at_call 79; (with_reducible refine (verditerref06_times.calls k2 _ _ t227 (-1) t230 _ ?side1 ?side2 A18.out).mono ?_); (case side1 => repeat (first | exact (Kd.R_reads' HO229.out).2.2 | (with_reducible refine Kd.C_alloc ?_ _) | (with_reducible refine Kd.C_drewN ?_ _) | (with_reducible refine Kd.C_drew ?_))); (case side2 => exact (Kd.R_reads' HO229.out).2.1); rintro e w25 ⟨v231, rfl, ho0, hb⟩; have n0_ := Aside0.mk (Kd.R_elder' (by (with_reducible repeat (first | apply Kd.R_alloc | apply Kd.R_drewN | apply Kd.R_drew)); exact HO_6.out) (Kd.R_base ho0) hb); have n1_ := Aside0.mk (Kd.R_elder' (by (with_reducible repeat (first | apply Kd.R_alloc | apply Kd.R_drewN | apply Kd.R_drew)); exact HO225.out) (Kd.R_base ho0) hb); have n2_ := Aside0.mk (Kd.R_elder' (by (with_reducible repeat (first | apply Kd.R_alloc | apply Kd.R_drewN | apply Kd.R_drew)); exact HO229.out) (Kd.R_base ho0) hb); have n3_ := Aside0.mk (Kd.R_lower (Kd.R_new' (Kd.R_new' (Kd.R_new' ho0 (Kd.R_lt (by (with_reducible repeat (first | apply Kd.R_alloc | apply Kd.R_drewN | apply Kd.R_drew)); exact HO_6.out))) (Kd.R_lt (by (with_reducible repeat (first | apply Kd.R_alloc | apply Kd.R_drewN | apply Kd.R_drew)); exact HO225.out))) (Kd.R_lt (by (with_reducible repeat (first | apply Kd.R_alloc | apply Kd.R_drewN | apply Kd.R_drew)); exact HO229.out))) (below_size (by repeat (first | (with_reducible first | exact HB.out | apply below_alloc | apply pw_below_drewN | apply below_drew1) | exact HB.out)))); have n4_ := Aside0.mk (below_step (by repeat (first | (with_reducible first | exact HB.out | apply below_alloc | apply pw_below_drewN | apply below_drew1) | exact HB.out)) hb); clear HO_6; clear HO225; clear HO229; clear HB; have HO_6 := n0_; have HO225 := n1_; have HO229 := n2_; have HO232 := n3_; have HB := n4_; clear n0_ n1_ n2_ n3_ n4_; (try clear hb); (try clear hb2); (try clear hk); (try clear hi); (try clear ho0); obtain ⟨Ao26, co26, eo26⟩ := Kd.R_slice HO232.out; subst eo26) | (go_at_call 60; (with_reducible refine (verditerref06_SameInts.calls k2 _ _ t219 _ _ t230 true _ ?side1 ?side2 ?side3 ?side4 A19.out).mono ?_); (case side1 => repeat (first | exact (Kd.R_reads' HO_6.out).2.2 | (with_reducible refine Kd.C_alloc ?_ _) | (with_reducible refine Kd.C_drewN ?_ _) | (with_reducible refine Kd.C_drew ?_))); (case side2 => exact (Kd.R_reads' HO_6.out).2.1); (case side3 => repeat (first | exact (Kd.R_reads' HO232.out).2.2 | (with_reducible refine Kd.C_alloc ?_ _) | (with_reducible refine Kd.C_drewN ?_ _) | (with_reducible refine Kd.C_drew ?_))); (case side4 => exact (Kd.R_reads' HO232.out).2.1); rintro e w' ⟨rfl, ⟨nd, rfl⟩⟩))
                    go_ret
                    exact ⟨by first | rfl | (simp [errW_none, errW_some] <;> rfl) | (simp [*, errW_none, errW_some] <;> rfl), by repeat (first | (with_reducible first | exact HB.out | apply below_alloc | apply pw_below_drewN | apply below_drew1) | exact HB.out)⟩
                  · replace c20 := Bool.eq_false_iff.mpr c20
                    subst c20
                    have H1 : (verditerref06_tells.l1 k2 a0 l1 x5_1 t219 (wrap64 (x7_2 + 1))) = some r := by rw [if_neg (show ¬ (false = true) by decide)] at H; exact H
                    clear H
                    have H := H1
                    clear H1
                    have H' := Aside0.mk H
                    clear H
                    go_wp2_with (first | ((with_reducible refine gate_callee (f := 80) rfl ?_); refine goesL_ (some 26) rfl rfl Try.func80 (by kernel_rfl) rfl #[.slice A1 l1.length c1, .int .i64 x7_2] rfl (by (try simp only [List.map_toArray, List.map_cons, List.map_nil]); first | done | rfl | (simp only [List.length_drop, List.length_take]; rfl)) ?_; (with_reducible refine (verditerref06_mark.calls k2 _ _ l1 x7_2 t223 _ ?side1 ?side2 A12.out).mono ?_); (case side1 => repeat (first | exact (Kd.C_below HR1.out HB.out) | (with_reducible refine Kd.C_alloc ?_ _) | (with_reducible refine Kd.C_drewN ?_ _) | (with_reducible refine Kd.C_drew ?_))); (case side2 => exact HC1.out); rintro e w27 ⟨v224, rfl, ho0, hb⟩; refine ⟨_, rfl, ?_⟩; have n0_ := Aside0.mk (Kd.R_elder' (by (with_reducible repeat (first | apply Kd.R_alloc | apply Kd.R_drewN | apply Kd.R_drew)); exact HO_6.out) (Kd.R_base ho0) hb); have n1_ := Aside0.mk (Kd.R_lower (Kd.R_new' ho0 (Kd.R_lt (by (with_reducible repeat (first | apply Kd.R_alloc | apply Kd.R_drewN | apply Kd.R_drew)); exact HO_6.out))) (below_size (by repeat (first | (with_reducible first | exact HB.out | apply below_alloc | apply pw_below_drewN | apply below_drew1) | exact HB.out)))); have n2_ := Aside0.mk (below_step (by repeat (first | (with_reducible first | exact HB.out | apply below_alloc | apply pw_below_drewN | apply below_drew1) | exact HB.out)) hb); clear HO_6; clear HB; have HO_6 := n0_; have HO225 := n1_; have HB := n2_; clear n0_ n1_ n2_; (try clear hb); (try clear hb2); (try clear hk); (try clear hi); (try clear ho0); obtain ⟨Ao28, co28, eo28⟩ := Kd.R_slice HO225.out; subst eo28) | ((with_reducible refine gate_callee (f := 60) rfl ?_); refine goesL_ (some 27) rfl rfl Try.func60 (by kernel_rfl) rfl #[.slice Ao10 t219.length co10, .slice Ao28 t223.length co28] rfl (by (try simp only [List.map_toArray, List.map_cons, List.map_nil]); first | done | rfl | (simp only [List.length_drop, List.length_take]; rfl)) ?_; (with_reducible refine (verditerref06_SameInts.calls k2 _ _ t219 _ _ t223 false _ ?side1 ?side2 ?side3 ?side4 A13.out).mono ?_); (case side1 => repeat (first | exact (Kd.R_reads' HO_6.out).2.2 | (with_reducible refine Kd.C_alloc ?_ _) | (with_reducible refine Kd.C_drewN ?_ _) | (with_reducible refine Kd.C_drew ?_))); (case side2 => exact (Kd.R_reads' HO_6.out).2.1); (case side3 => repeat (first | exact (Kd.R_reads' HO225.out).2.2 | (with_reducible refine Kd.C_alloc ?_ _) | (with_reducible refine Kd.C_drewN ?_ _) | (with_reducible refine Kd.C_drew ?_))); (case side4 => exact (Kd.R_reads' HO225.out).2.1); rintro e w' ⟨rfl, ⟨nd, rfl⟩⟩; refine ⟨_, rfl, ?_⟩) | (go_at_call 80; (with_reducible refine (verditerref06_mark.calls k2 _ _ l1 x7_2 t227 _ ?side1 ?side2 A17.out).mono ?_); (case side1 => repeat (first | exact (Kd.C_below HR1.out (by repeat (first | (with_reducible first | exact HB.out | apply below_alloc | apply pw_below_drewN | apply below_drew1) | exact HB.out))) | (with_reducible refine Kd.C_alloc ?_ _) | (with_reducible refine Kd.C_drewN ?_ _) | (with_reducible refine Kd.C_drew ?_))); (case side2 => exact HC1.out); rintro e w29 ⟨v228, rfl, ho0, hb⟩; have n0_ := Aside0.mk (Kd.R_elder' (by (with_reducible repeat (first | apply Kd.R_alloc | apply Kd.R_drewN | apply Kd.R_drew)); exact HO_6.out) (Kd.R_base ho0) hb); have n1_ := Aside0.mk (Kd.R_elder' (by (with_reducible repeat (first | apply Kd.R_alloc | apply Kd.R_drewN | apply Kd.R_drew)); exact HO225.out) (Kd.R_base ho0) hb); have n2_ := Aside0.mk (Kd.R_lower (Kd.R_new' (Kd.R_new' ho0 (Kd.R_lt (by (with_reducible repeat (first | apply Kd.R_alloc | apply Kd.R_drewN | apply Kd.R_drew)); exact HO_6.out))) (Kd.R_lt (by (with_reducible repeat (first | apply Kd.R_alloc | apply Kd.R_drewN | apply Kd.R_drew)); exact HO225.out))) (below_size (by repeat (first | (with_reducible first | exact HB.out | apply below_alloc | apply pw_below_drewN | apply below_drew1) | exact HB.out)))); have n3_ := Aside0.mk (below_step (by repeat (first | (with_reducible first | exact HB.out | apply below_alloc | apply pw_below_drewN | apply below_drew1) | exact HB.out)) hb); clear HO_6; clear HO225; clear HB; have HO_6 := n0_; have HO225 := n1_; have HO229 := n2_; have HB := n3_; clear n0_ n1_ n2_ n3_; (try clear hb); (try clear hb2); (try clear hk); (try clear hi); (try clear ho0); obtain ⟨Ao30, co30, eo30⟩ := Kd.R_slice HO229.out; subst eo30) | (go_at_call 79; (with_reducible refine (verditerref06_times.calls k2 _ _ t227 (-1) t230 _ ?side1 ?side2 A18.out).mono ?_); (case side1 => repeat (first | exact (Kd.R_reads' HO229.out).2.2 | (with_reducible refine Kd.C_alloc ?_ _) | (with_reducible refine Kd.C_drewN ?_ _) | (with_reducible refine Kd.C_drew ?_))); (case side2 => exact (Kd.R_reads' HO229.out).2.1); rintro e w31 ⟨v231, rfl, ho0, hb⟩; have n0_ := Aside0.mk (Kd.R_elder' (by (with_reducible repeat (first | apply Kd.R_alloc | apply Kd.R_drewN | apply Kd.R_drew)); exact HO_6.out) (Kd.R_base ho0) hb); have n1_ := Aside0.mk (Kd.R_elder' (by (with_reducible repeat (first | apply Kd.R_alloc | apply Kd.R_drewN | apply Kd.R_drew)); exact HO225.out) (Kd.R_base ho0) hb); have n2_ := Aside0.mk (Kd.R_elder' (by (with_reducible repeat (first | apply Kd.R_alloc | apply Kd.R_drewN | apply Kd.R_drew)); exact HO229.out) (Kd.R_base ho0) hb); have n3_ := Aside0.mk (Kd.R_lower (Kd.R_new' (Kd.R_new' (Kd.R_new' ho0 (Kd.R_lt (by (with_reducible repeat (first | apply Kd.R_alloc | apply Kd.R_drewN | apply Kd.R_drew)); exact HO_6.out))) (Kd.R_lt (by (with_reducible repeat (first | apply Kd.R_alloc | apply Kd.R_drewN | apply Kd.R_drew)); exact HO225.out))) (Kd.R_lt (by (with_reducible repeat (first | apply Kd.R_alloc | apply Kd.R_drewN | apply Kd.R_drew)); exact HO229.out))) (below_size (by repeat (first | (with_reducible first | exact HB.out | apply below_alloc | apply pw_below_drewN | apply below_drew1) | exact HB.out)))); have n4_ := Aside0.mk (below_step (by repeat (first | (with_reducible first | exact HB.out | apply below_alloc | apply pw_below_drewN | apply below_drew1) | exact HB.out)) hb); clear HO_6; clear HO225; clear HO229; clear HB; have HO_6 := n0_; have HO225 := n1_; have HO229 := n2_; have HO232 := n3_; have HB := n4_; clear n0_ n1_ n2_ n3_ n4_; (try clear hb); (try clear hb2); (try clear hk); (try clear hi); (try clear ho0); obtain ⟨Ao32, co32, eo32⟩ := Kd.R_slice HO232.out; subst eo32) | (go_at_call 60; (with_reducible refine (verditerref06_SameInts.calls k2 _ _ t219 _ _ t230 false _ ?side1 ?side2 ?side3 ?side4 A19.out).mono ?_); (case side1 => repeat (first | exact (Kd.R_reads' HO_6.out).2.2 | (with_reducible refine Kd.C_alloc ?_ _) | (with_reducible refine Kd.C_drewN ?_ _) | (with_reducible refine Kd.C_drew ?_))); (case side2 => exact (Kd.R_reads' HO_6.out).2.1); (case side3 => repeat (first | exact (Kd.R_reads' HO232.out).2.2 | (with_reducible refine Kd.C_alloc ?_ _) | (with_reducible refine Kd.C_drewN ?_ _) | (with_reducible refine Kd.C_drew ?_))); (case side4 => exact (Kd.R_reads' HO232.out).2.1); rintro e w' ⟨rfl, ⟨nd, rfl⟩⟩))
                    go_roundg k2
                    case measure => have := HK1.out; have := HK2.out; omega
                    case rel => exact ⟨(wrap64 (x7_2 + 1)), (by first | rfl | (simp; done) | (simp [*]; done)), H', ⟨by have := HK1.out; have := HK2.out; omega⟩, ⟨by (with_reducible repeat (first | apply Kd.R_alloc | apply Kd.R_drewN | apply Kd.R_drew)); exact Kd.R_mono HO_6.out (fun _ hk => trivial)⟩, ⟨by repeat (first | (with_reducible first | exact HB.out | apply below_alloc | apply pw_below_drewN | apply below_drew1) | exact HB.out)⟩⟩
              · rw [if_neg c11] at H
                have c11b0 : decide (x7_2 < x5_1) = false := decide_eq_false c11
                clear c11
                have H' := Aside0.mk H
                clear H
                go_wp2
                go_roundg k2
                case measure => have := HK1.out; have := HK2.out; omega
                case rel => exact ⟨(wrap64 (x5_1 + 1)), (by first | rfl | (simp; done) | (simp [*]; done)), H', ⟨by have := HK1.out; have := HK2.out; omega⟩, ⟨by repeat (first | (with_reducible first | exact HB.out | apply below_alloc | apply pw_below_drewN | apply below_drew1) | exact HB.out)⟩⟩
      · rw [if_neg c3] at H
        have c3b0 : decide (x5_1 < a0) = false := decide_eq_false c3
        clear c3
        obtain rfl := Option.some.inj H
        go_wp2
        go_ret
        exact ⟨by first | rfl | (simp [errW_none, errW_some] <;> rfl) | (simp [*, errW_none, errW_some] <;> rfl), by repeat (first | (with_reducible first | exact HB.out | apply below_alloc | apply pw_below_drewN | apply below_drew1) | exact HB.out)⟩

end Go.Proofs.Ytdbeochifofdoaa.X
end

section
/-! What the document's small functions come to. -/
namespace Go.Proofs.Ytdbeochifofdoaa.X
open Go.RowKit Go.Proofs.YtdbeochifofdoaaW.PrintWords Go.Proofs.YtdbeochifofdoaaW.PrintLast
set_option linter.unusedVariables false
set_option linter.unusedSimpArgs false

theorem wrs (i : Nat) (h : i < 9223372036854775807) : wrap64 ((i : Int) + 1) = ((i + 1 : Nat) : Int) := by rw [wr1 (by omega) (by omega)]; omega

theorem has_l0 (l : List Int) (x : Int) (hl : l.length < 9223372036854775807) : ∀ (d k i : Nat), i ≤ l.length → l.length - i = d → d < k → verditerref06_has.l0 k l x i = some ((l.drop i).contains x)
  | 0, k + 1, i, h1, h2, _ => by
    unfold verditerref06_has.l0
    rw [if_neg (by omega), List.drop_eq_nil_of_le (by omega)]
    rfl
  | d + 1, k + 1, i, h1, h2, h3 => by
    unfold verditerref06_has.l0
    rw [if_pos (by omega), if_pos (by omega), rd_nat, dropD 0 l i (by omega), List.contains_cons, wrs i (by omega)]
    have ih := has_l0 l x hl d k (i + 1) (by omega) (by omega) (by omega)
    by_cases hx : l.getD i 0 = x
    · rw [if_pos hx, hx]; simp
    · have hbe : (x == l.getD i 0) = false := by rw [beq_eq_false_iff_ne]; exact fun e => hx e.symm
      rw [if_neg hx, ih, hbe, Bool.false_or]
theorem has_f (l : List Int) (x : Int) (k : Nat) (hl : l.length < 9223372036854775807) (hk : l.length < k) : verditerref06_has.f k l x = some (l.contains x) := by
  unfold verditerref06_has.f
  exact (has_l0 l x hl l.length k 0 (by omega) (by omega) hk).trans (by simp)

/-- The document's mark of a lot. -/
def markOf (x : Int) (y : S53) : Int := if y.f1.contains x then -1 else if y.f0.contains x then 1 else 0
def refMark (l : List S53) (x : Int) : List Int := l.map (markOf x)
theorem mark_l0 (l : List S53) (x : Int) (hl : l.length < 17592186044416) (hs : ∀ y, y ∈ l → y.f0.length ≤ 50 ∧ y.f1.length ≤ 50) :
    ∀ (d k i : Nat) (acc : List Int), i ≤ l.length → l.length - i = d → acc.length = i → d + 51 < k → verditerref06_mark.l0 k l x acc i = some (acc ++ refMark (l.drop i) x)
  | 0, k + 1, i, acc, h1, h2, _, _ => by
    unfold verditerref06_mark.l0
    rw [if_neg (by omega), List.drop_eq_nil_of_le (by omega)]
    simp [refMark]
  | d + 1, k + 1, i, acc, h1, h2, h3, h4 => by
    unfold verditerref06_mark.l0
    have hb := hs _ (mem_getD z53 l i (by omega))
    have hr : refMark (l.drop i) x = markOf x (l.getD i z53) :: refMark (l.drop (i + 1)) x := by rw [dropD z53 l i (by omega)]; rfl
    have ih := fun v => mark_l0 l x hl hs d k (i + 1) (acc ++ [v]) (by omega) (by omega) (by simp [h3]) (by omega)
    rw [if_pos (by omega), if_pos (by omega), show rd_T53 l (i : Int) = l.getD i z53 from rfl, has_f _ x k (by omega) (by omega), has_f _ x k (by omega) (by omega), wrs i (by omega), hr]
    simp only [Option.bind_some, if_pos (show acc.length < 17592186044416 by omega), ih]
    unfold markOf
    cases (l.getD i z53).f0.contains x <;> cases (l.getD i z53).f1.contains x <;> simp
theorem mark_f (l : List S53) (x : Int) (k : Nat) (hl : l.length < 17592186044416) (hs : ∀ y, y ∈ l → y.f0.length ≤ 50 ∧ y.f1.length ≤ 50) (hk : l.length + 51 < k) : verditerref06_mark.f k l x = some (refMark l x) := by
  unfold verditerref06_mark.f
  exact (mark_l0 l x hl hs l.length k 0 [] (by omega) (by omega) rfl hk).trans (by simp)

theorem times_l0 (l : List Int) (x : Int) (hl : l.length < 17592186044416) :
    ∀ (d k i : Nat) (acc : List Int), i ≤ l.length → l.length - i = d → acc.length = i → d < k → verditerref06_times.l0 k l x acc i = some (acc ++ (l.drop i).map fun y => wrap64 (x * y))
  | 0, k + 1, i, acc, h1, h2, _, _ => by
    unfold verditerref06_times.l0
    rw [if_neg (by omega), List.drop_eq_nil_of_le (by omega)]
    simp
  | d + 1, k + 1, i, acc, h1, h2, h3, h4 => by
    unfold verditerref06_times.l0
    have ih := times_l0 l x hl d k (i + 1) (acc ++ [wrap64 (x * l.getD i 0)]) (by omega) (by omega) (by simp [h3]) (by omega)
    rw [if_pos (by omega), if_pos (by omega), if_pos (show acc.length < 17592186044416 by omega), rd_nat, wrs i (by omega), ih, dropD 0 l i (by omega)]
    simp
theorem times_f (l : List Int) (x : Int) (k : Nat) (hl : l.length < 17592186044416) (hk : l.length < k) : verditerref06_times.f k l x = some (l.map fun y => wrap64 (x * y)) := by
  unfold verditerref06_times.f
  exact (times_l0 l x hl l.length k 0 [] (by omega) (by omega) rfl hk).trans (by simp)
theorem isBlank_l0 (l : List Int) (hl : l.length < 9223372036854775807) : ∀ (d k i : Nat), i ≤ l.length → l.length - i = d → d < k → verditerref06_isBlank.l0 k l i = some ((l.drop i).all (· == 0))
  | 0, k + 1, i, h1, h2, _ => by
    unfold verditerref06_isBlank.l0
    rw [if_neg (by omega), List.drop_eq_nil_of_le (by omega)]
    rfl
  | d + 1, k + 1, i, h1, h2, h3 => by
    unfold verditerref06_isBlank.l0
    rw [if_pos (by omega), if_pos (by omega), rd_nat, dropD 0 l i (by omega), List.all_cons, wrs i (by omega)]
    have ih := isBlank_l0 l hl d k (i + 1) (by omega) (by omega) (by omega)
    by_cases hx : l.getD i 0 = 0
    · rw [if_pos hx, hx, ih]; rfl
    · have hbe : (l.getD i 0 == 0) = false := by rw [beq_eq_false_iff_ne]; exact hx
      rw [if_neg hx, hbe]
      rfl
theorem isBlank_f (l : List Int) (k : Nat) (hl : l.length < 9223372036854775807) (hk : l.length < k) : verditerref06_isBlank.f k l = some (l.all (· == 0)) := by
  unfold verditerref06_isBlank.f
  exact (isBlank_l0 l hl l.length k 0 (by omega) (by omega) hk).trans (by simp)
theorem same_l0 (l m : List Int) (hl : l.length < 9223372036854775807) (he : l.length = m.length) : ∀ (d k i : Nat), i ≤ l.length → l.length - i = d → d < k → verditerref06_SameInts.l0 k l m i = some (l.drop i == m.drop i)
  | 0, k + 1, i, h1, h2, _ => by
    unfold verditerref06_SameInts.l0
    rw [if_neg (by omega), List.drop_eq_nil_of_le (by omega), List.drop_eq_nil_of_le (by omega)]
    rfl
  | d + 1, k + 1, i, h1, h2, h3 => by
    unfold verditerref06_SameInts.l0
    rw [if_pos (by omega), if_pos (by omega), if_pos (by omega), rd_nat, rd_nat, dropD 0 l i (by omega), dropD 0 m i (by omega), List.cons_beq_cons, wrs i (by omega)]
    have ih := same_l0 l m hl he d k (i + 1) (by omega) (by omega) (by omega)
    by_cases hx : l.getD i 0 = m.getD i 0
    · have hbe : (l.getD i 0 == m.getD i 0) = true := by rw [beq_iff_eq]; exact hx
      rw [if_pos hx, ih, hbe, Bool.true_and]
    · have hbe : (l.getD i 0 == m.getD i 0) = false := by rw [beq_eq_false_iff_ne]; exact hx
      rw [if_neg hx, hbe]
      rfl
theorem same_f (l m : List Int) (k : Nat) (hl : l.length < 9223372036854775807) (hk : l.length < k) : verditerref06_SameInts.f k l m = some (l == m) := by
  unfold verditerref06_SameInts.f
  by_cases he : l.length = m.length
  · rw [if_pos (by omega)]
    exact (same_l0 l m hl he l.length k 0 (by omega) (by omega) hk).trans (by simp)
  · rw [if_neg (by omega)]
    have : (l == m) = false := by rw [beq_eq_false_iff_ne]; exact fun e => he (by rw [e])
    rw [this]
end Go.Proofs.Ytdbeochifofdoaa.X
end

section
/-! The document's Validate is the program's. -/
namespace Go.Proofs.Ytdbeochifofdoaa.X
open Go.RowKit Go.Proofs.YtdbeochifofdoaaW.PrintWords Go.Proofs.YtdbeochifofdoaaW.PrintLast
set_option linter.unusedVariables false
set_option linter.unusedSimpArgs false

theorem val_l1 (lots : Int) (l : List S53) (i : Nat) (hi : i < l.length) (hm : l.length < 9223372036854775807) (hs : ∀ y, y ∈ l → y.f0.length ≤ 50 ∧ y.f1.length ≤ 50) (K : Nat) (r : Int)
    (hc : ∀ k, K ≤ k → verditerref06_Validate.l0 k lots l ((i + 1 : Nat) : Int) = some r) :
    ∀ (d j k : Nat), j ≤ (l.getD i z53).f0.length → (l.getD i z53).f0.length - j = d → K + d + 60 ≤ k →
      verditerref06_Validate.l1 k lots l i j = some (if ((l.getD i z53).f0.drop j).any (fun n => (l.getD i z53).f1.contains n) = true then 6 else if (l.getD i z53).f0.length = (l.getD i z53).f1.length then r else 5)
  | 0, j, k + 1, h1, h2, h3 => by
    unfold verditerref06_Validate.l1
    rw [if_pos (by omega), if_pos (by omega), show rd_T53 l (i : Int) = l.getD i z53 from rfl, if_neg (by omega), List.drop_eq_nil_of_le (by omega), wrs i (by omega), hc k (by omega)]
    by_cases he : (l.getD i z53).f0.length = (l.getD i z53).f1.length
    · rw [if_pos (by omega), List.any_nil, if_neg (by simp), if_pos he]
    · rw [if_neg (by omega), List.any_nil, if_neg (by simp), if_neg he]
  | d + 1, j, k + 1, h1, h2, h3 => by
    have hb := hs _ (mem_getD z53 l i hi)
    unfold verditerref06_Validate.l1
    have ih := val_l1 lots l i hi hm hs K r hc d (j + 1) k (by omega) (by omega) (by omega)
    rw [if_pos (by omega), if_pos (by omega), show rd_T53 l (i : Int) = l.getD i z53 from rfl, if_pos (by omega), if_pos (by omega), rd_nat, has_f _ _ k (by omega) (by omega), wrs j (by omega), ih, dropD 0 (l.getD i z53).f0 j (by omega), List.any_cons, Option.bind_some]
    cases hq : (l.getD i z53).f1.contains ((l.getD i z53).f0.getD j 0) with
    | true => rw [if_pos rfl, Bool.true_or, if_pos rfl]
    | false => rw [if_neg (by simp), Bool.false_or]
theorem val_l0 (lots : Int) (hl : 1 ≤ lots ∧ lots ≤ 13) (l : List S53) (hm : l.length < 9223372036854775807) (hs : ∀ y, y ∈ l → y.f0.length ≤ 50 ∧ y.f1.length ≤ 50) :
    ∀ (d i k : Nat), i ≤ l.length → l.length - i = d → 200 * (d + 1) ≤ k → verditerref06_Validate.l0 k lots l i = some (vErr lots (l.drop i))
  | 0, i, k + 1, h1, h2, h3 => by
    unfold verditerref06_Validate.l0
    rw [if_neg (by omega), List.drop_eq_nil_of_le (by omega)]
    rfl
  | d + 1, i, k + 2, h1, h2, h3 => by
    have hb := hs _ (mem_getD z53 l i (by omega))
    have hv : vErr lots (l.drop i) = if wErr lots (l.getD i z53) = 0 then vErr lots (l.drop (i + 1)) else wErr lots (l.getD i z53) := by rw [dropD z53 l i (by omega)]; rfl
    have hc : ∀ k, 200 * (d + 1) ≤ k → verditerref06_Validate.l0 k lots l ((i + 1 : Nat) : Int) = some (vErr lots (l.drop (i + 1))) := fun k hk => val_l0 lots hl l hm hs d (i + 1) k (by omega) (by omega) hk
    have h1' := val_l1 lots l i (by omega) hm hs (200 * (d + 1)) _ hc (l.getD i z53).f0.length 0 k (by omega) (by omega) (by omega)
    have hj : ∀ b, verditerref06_Validate.j1 (k + 1) lots l i b = if b = true then some 1 else verditerref06_Validate.l1 k lots l i 0 := fun b => by unfold verditerref06_Validate.j1; rfl
    unfold verditerref06_Validate.l0
    rw [if_pos (by omega), if_pos (by omega), show rd_T53 l (i : Int) = l.getD i z53 from rfl]
    simp only [verditerref06_isSet.f, if_pos hl, Option.bind_some, hj]
    rw [show ((0 : Nat) : Int) = 0 from rfl] at h1'
    rw [h1', hv]
    unfold wErr
    cases isSetB lots (l.getD i z53).f0 <;> cases isSetB lots (l.getD i z53).f1 <;> simp <;> (split <;> simp_all)
theorem refValidate_f (lots : Int) (l : List S53) (hm : l.length < 9223372036854775807) (hs : ∀ y, y ∈ l → y.f0.length ≤ 50 ∧ y.f1.length ≤ 50) (k : Nat) (hk : 800 ≤ k) : verditerref06_Validate.f k lots l = some (pErr lots l) := by
  unfold verditerref06_Validate.f pErr
  rw [rwithin_b, Option.bind_some]
  by_cases hl : 1 ≤ lots ∧ lots ≤ 13
  · have hb : (decide (1 ≤ lots) && decide (lots ≤ 13)) = true := by simp [hl]
    rw [if_pos hb, if_pos hl]
    by_cases h3 : 3 < l.length
    · rw [if_pos (by omega), if_pos h3]
    · rw [if_neg (by omega), if_neg h3]
      exact val_l0 lots hl l hm hs l.length 0 k (by omega) (by omega) (by omega)
  · have hb : ¬ (decide (1 ≤ lots) && decide (lots ≤ 13)) = true := by simpa using hl
    rw [if_neg hb, if_neg hl]
end Go.Proofs.Ytdbeochifofdoaa.X
end
