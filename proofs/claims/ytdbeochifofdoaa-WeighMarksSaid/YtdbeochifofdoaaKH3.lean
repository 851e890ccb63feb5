/- The law WeighMarks of the given program: the marks of the lots; the plan is made of them again.
Its conditions: none beyond the statement's own. Part 4 of 6 of the proof. -/
import Derived.Deep.RegionHeld3
import Derived.Laws.CopyOwn
import Derived.ChangeArms
import Derived.ChangeSlices
import Derived.SizedLaws
import Derived.Test.YtdbeochifofdoaaKH2
section
/-! weigh.cased. -/
namespace Go.Proofs.Ytdbeochifofdoaa.X
open Go.RowKit Go.Proofs.YtdbeochifofdoaaW.PrintWords Go.Proofs.YtdbeochifofdoaaW.PrintLast Go.Proofs.YtdbeochifofdoaaW.PrintMore
set_option linter.unusedVariables false
set_option linter.unusedSimpArgs false

/-- The error of lots, a plan and cases. -/
def cErr (lots : Int) (l : List S53) (cs : List S35) : Int :=
  if pErr lots l = 0 then (if cs.any (fun x => !(decide (0 ≤ x.f0) && decide (x.f0 ≤ lots - 1))) = true then 4 else if cs.any (fun x => x.f1 != 1 && x.f1 != -1) = true then 1 else 0) else pErr lots l
def weigh_cased.f (a0 : Int) (l1 : List S53) (l2 : List S35) : Option Int := some (cErr a0 l1 l2)

theorem eg115 (args : Array Value) (w : World) : (callFunc 115 args).run Try.prog w = .ok (.enter 115 args) w := enters_of Try.func115 (by kernel_rfl) rfl args w
theorem eg116 (args : Array Value) (w : World) : (callFunc 116 args).run Try.prog w = .ok (.enter 116 args) w := enters_of Try.func116 (by kernel_rfl) rfl args w

set_option maxHeartbeats 4000000 in
set_option maxRecDepth 100000 in
theorem weigh_cased.calls (a0 : Int) (A1 : Option Addr) (c1 : Nat) (l1 : List S53) (A2 : Option Addr) (c2 : Nat) (l2 : List S35) (r : Int) (w : World) (hr1 : Kd.C k53 w A1 l1.length l1) (hc1 : l1.length ≤ c1) (hr2 : Kd.C k35 w A2 l2.length l2) (hc2 : l2.length ≤ c2) (h : weigh_cased.f a0 l1 l2 = some r) :
    Calls Try.prog 95 #[.int .i64 a0, .slice A1 l1.length c1, .slice A2 l2.length c2] w fun e w' => e = .returned (.int .i64 r) ∧ Below w.heap.size w w' := by
  obtain rfl := Option.some.inj h
  have HR1 := Aside0.mk hr1
  have HR2 := Aside0.mk hr2
  have HC1 := Aside0.mk hc1
  clear h hr1 hr2 hc1 hc2
  by_cases hp : pErr a0 l1 = 0
  rotate_left
  · have e1 : cErr a0 l1 l2 = pErr a0 l1 := by unfold cErr; rw [if_neg hp]
    rw [e1]
    have hf : weigh_Validate.f a0 l1 = some (pErr a0 l1) := rfl
    clear e1
    generalize pErr a0 l1 = p at *
    have HF := Aside0.mk hf
    have q1 : (p != 0) = true := by simpa using hp
    clear hf hp
    go_enter Try.func95, Try.ntmps95
    go_wp2_with (go_at_call 58; refine (weigh_Validate.calls a0 A1 c1 l1 p _ (Kd.C_alloc HR1.out _) HC1.out HF.out).mono ?_; rintro e w' ⟨rfl, hb⟩)
    go_ret
    exact ⟨rfl, (below_alloc (Below.refl _ _) _).trans (hb.mono (by simp))⟩
  have OK := Aside0.mk (pErr_ok hp)
  have hf : weigh_Validate.f a0 l1 = some 0 := by rw [weigh_Validate.f, hp]
  have e1 : cErr a0 l1 l2 = if l2.any (fun x => !(decide (0 ≤ x.f0) && decide (x.f0 ≤ a0 - 1))) = true then 4 else if l2.any (fun x => x.f1 != 1 && x.f1 != -1) = true then 1 else 0 := by unfold cErr; rw [if_pos hp]
  rw [e1]
  obtain ⟨q, hq⟩ : ∃ q : Int, q = if l2.any (fun x => !(decide (0 ≤ x.f0) && decide (x.f0 ≤ a0 - 1))) = true then 4 else if l2.any (fun x => x.f1 != 1 && x.f1 != -1) = true then 1 else 0 := ⟨_, rfl⟩
  rw [← hq]
  have HQ := Aside0.mk hq
  have HF := Aside0.mk hf
  clear e1 hf hp hq
  have hlo : 1 ≤ a0 := OK.out.lo
  have hhi : a0 ≤ 13 := OK.out.hi
  go_enter Try.func95, Try.ntmps95
  go_wp2_with fail
  refine (weigh_Validate.calls a0 A1 c1 l1 0 _ (Kd.C_alloc HR1.out _) HC1.out HF.out).mono ?_; rintro e w1 ⟨rfl, hb⟩
  have hbx := hb.cell (p := ⟨w.heap.size, 0, none⟩) (by simp)
  have hx : w1.cell? ⟨w.heap.size, 0, none⟩ = some (.int .i64 a0) := hbx.trans (blk_cell (blk_new w _) 0)
  have hsz : w.heap.size < w1.heap.size := by have := hb.size; simp at this; omega
  have HB := Aside0.mk ((below_alloc (Below.refl _ w) (.cells #[.int .i64 a0] 3)).trans (hb.mono (by simp)))
  clear hb hbx
  go_wp2_with fail
  refine (containsFunc114 115 #[.pointer (some ⟨w.heap.size, 0, none⟩)] eg115 (fun x => !(decide (0 ≤ x.f0) && decide (x.f0 ≤ a0 - 1))) A2 c2 l2 _ ?hr ?hp).mono ?_
  case hr => exact Kd.C_below HR2.out HB.out
  case hp =>
    intro W x _ hbW
    exact lit115 x a0 (by omega) (by omega) w.heap.size W (by have := hbW.size; omega) ((hbW.cell (p := ⟨w.heap.size, 0, none⟩) hsz).trans hx)
  rintro e w2 ⟨rfl, hb2⟩
  have HB2 := Aside0.mk (HB.out.trans (hb2.mono HB.out.size))
  clear hx hsz HB hb2
  cases h1 : l2.any (fun x => !(decide (0 ≤ x.f0) && decide (x.f0 ≤ a0 - 1))) with
  | true =>
    have H1 := Aside0.mk h1
    clear h1
    go_wp2
    go_ret
    exact ⟨by rw [HQ.out, H1.out]; rfl, HB2.out⟩
  | false =>
    have H1 := Aside0.mk h1
    clear h1
    go_wp2_with fail
    refine (containsFunc114 116 #[] eg116 (fun x => x.f1 != 1 && x.f1 != -1) A2 c2 l2 _ ?hr ?hp).mono ?_
    case hr => exact Kd.C_below HR2.out HB2.out
    case hp =>
      intro W x _ hbW
      exact lit116 x W
    rintro e w3 ⟨rfl, hb3⟩
    have HB3 := Aside0.mk (HB2.out.trans (hb3.mono HB2.out.size))
    clear HB2 hb3
    cases h2 : l2.any (fun x => x.f1 != 1 && x.f1 != -1) with
    | true =>
      have H2 := Aside0.mk h2
      clear h2
      go_wp2
      go_ret
      exact ⟨by rw [HQ.out, H1.out, H2.out]; rfl, HB3.out⟩
    | false =>
      have H2 := Aside0.mk h2
      clear h2
      go_wp2
      go_ret
      exact ⟨by rw [HQ.out, H1.out, H2.out]; rfl, HB3.out⟩
end Go.Proofs.Ytdbeochifofdoaa.X
end

section
/-! weigh.Answers. -/
namespace Go.Proofs.Ytdbeochifofdoaa.X
open Go.RowKit Go.Proofs.YtdbeochifofdoaaW.PrintWords Go.Proofs.YtdbeochifofdoaaW.PrintLast Go.Proofs.YtdbeochifofdoaaW.PrintMore
set_option linter.unusedVariables false
set_option linter.unusedSimpArgs false

section
variable {P : Program} {ops : Array Oper} {Q : Exit → Act → World → Prop}
/-- A load, or another operation that gives a value, in a region of open order. -/
theorem val_ {oi : Oper} {N : Option Tmp} {a : Act} {w : World} {K : Act → World → Prop} {v : Value} (hw : Region.wanted oi (yielded ops a.tmps) = true) (hN : oi.dst = N) (hrun : (execOp a.eval oi).run P w = .ok (.value v) w)
    (h : K (a.put N v) w) : if Region.wanted oi (yielded ops a.tmps) = true then Oper.wp P oi a w K Q else K (a.put N undef) w := by
  rw [if_pos hw]
  unfold Oper.wp
  rw [hrun]
  subst hN
  exact h
end
/-- A mark times a way. -/
def tim3 (m : S70) (k : Int) : S70 := ⟨wrap64 (m.f0 * k), wrap64 (m.f1 * k), wrap64 (m.f2 * k)⟩
def weigh_Answers.f (a0 : Int) (l1 : List S53) (c0 c1 : Int) : Option (List Int × Int) :=
  if cErr a0 l1 [⟨c0, c1⟩] = 0 then some (cut3 l1.length (tim3 ((marksL a0 l1).getD c0.toNat z70) c1), 0) else some ([], cErr a0 l1 [⟨c0, c1⟩])
/-- A case in a block of its own, as a row of one. -/
theorem C35_one {W : World} {g : Nat} {a b : Int} (h : W.heap[g]? = some (.cells #[.int .i64 a, .int .i64 b] 35 (0, 0))) : Kd.C k35 W (some ⟨g, 0, none⟩) 1 [(⟨a, b⟩ : S35)] := by
  refine ⟨rfl, by omega, fun _ => ⟨_, rfl, fun j p hj => ?_⟩⟩
  match j, hj with
  | 0, hj =>
    obtain rfl := Option.some.inj hj
    refine ⟨[.int .i64 a, .int .i64 b], rfl, ⟨[.int .i64 a], [.int .i64 b], rfl, rfl, rfl⟩, fun i u hu => ?_⟩
    rw [add_plain, blk_cell h]
    simpa using hu
  | j + 1, hj => cases hj
theorem cErr_at {lots : Int} {l : List S53} {c0 c1 : Int} (h : cErr lots l [⟨c0, c1⟩] = 0) : pErr lots l = 0 ∧ 0 ≤ c0 ∧ c0 < lots := by
  unfold cErr at h
  by_cases hp : pErr lots l = 0
  · rw [if_pos hp] at h
    refine ⟨hp, ?_⟩
    by_cases h1 : ([(⟨c0, c1⟩ : S35)].any (fun x => !(decide (0 ≤ x.f0) && decide (x.f0 ≤ lots - 1)))) = true
    · rw [if_pos h1] at h; cases h
    · simp at h1
      omega
  · rw [if_neg hp] at h; exact absurd h hp
theorem marksL_len' (lots : Int) (l : List S53) : (marksL lots l).length = lots.toNat := by simp [marksL, rowsOf]
def weigh_Answers.T : Bool × List (List Nat × List Nat) := (true, [([], []), ([], []), ([0, 1], [0, 1]), ([], []), ([3], [3]), ([2, 4], [2, 4]), ([5], [5]), ([], []), ([7], [7]), ([6, 8, 2], [6, 8]), ([], []), ([10, 9, 9, 0, 1, 2, 3, 4, 5, 6, 7, 8, 9, 10], [9, 10])])
def weigh_Answers.B : List Nat := [0, 0, 3, 0, 8, 31, 63, 0, 128, 511, 0, 2047]
theorem weigh_Answers.tab : rtab .any (opsOf Try.f57 4) = weigh_Answers.T := by kernel_rfl
theorem weigh_Answers.bits : waitsOk weigh_Answers.T.2 weigh_Answers.B = true := by kernel_rfl
set_option maxHeartbeats 4000000 in
set_option maxRecDepth 100000 in
theorem weigh_Answers.calls (a0 : Int) (A1 : Option Addr) (c1 : Nat) (l1 : List S53) (b0 b1 : Int) (r1 : List Int) (r2 : Int) (w : World) (hr1 : Kd.C k53 w A1 l1.length l1) (hc1 : l1.length ≤ c1) (h : weigh_Answers.f a0 l1 b0 b1 = some (r1, r2)) :
    Calls Try.prog 57 #[.int .i64 a0, .slice A1 l1.length c1, .agg #[.int .i64 b0, .int .i64 b1]] w fun e w' => ∃ v0_ : Value, e = .returned (.tuple #[v0_, .int .i64 r2]) ∧ Kd.R (Kd.int .i64) 3 w' w.heap.size (fun _ => True) v0_ r1 ∧ Below w.heap.size w w' := by
  have HR := Aside0.mk hr1
  have HC := Aside0.mk hc1
  unfold weigh_Answers.f at h
  obtain ⟨q, hq⟩ : ∃ q, q = cErr a0 l1 [⟨b0, b1⟩] := ⟨_, rfl⟩
  have HF := Aside0.mk (show weigh_cased.f a0 l1 [⟨b0, b1⟩] = some q by rw [hq]; rfl)
  have HQ := Aside0.mk hq
  rw [← hq] at h
  clear hq hr1 hc1
  go_enter Try.func57, Try.ntmps57
  go_wp2_with fail
  have hcC := C35_one (a := b0) (b := b1) (blk_new (w.alloc (.cells #[.int .i64 b0, .int .i64 b1] 35)) (.cells #[.int .i64 b0, .int .i64 b1] 35))
  rw [show (w.alloc (.cells #[.int .i64 b0, .int .i64 b1] 35)).heap.size = w.heap.size + 1 from by simp] at hcC
  refine (weigh_cased.calls a0 A1 c1 l1 _ 1 [⟨b0, b1⟩] q _ (Kd.C_alloc (Kd.C_alloc HR.out _) _) HC.out hcC (by simp) HF.out).mono ?_
  rintro e w1 ⟨rfl, hb⟩
  have HB := Aside0.mk ((below_alloc (below_alloc (Below.refl _ w) (.cells #[.int .i64 b0, .int .i64 b1] 35)) (.cells #[.int .i64 b0, .int .i64 b1] 35)).trans (hb.mono (by simp; omega)))
  have BK := Aside0.mk (blk_below (blk_alloc (blk_new w (.cells #[.int .i64 b0, .int .i64 b1] 35)) (.cells #[.int .i64 b0, .int .i64 b1] 35)) hb)
  clear hb hcC
  by_cases hz : q = 0
  rotate_left
  · rw [if_neg hz] at h
    simp only [Option.some.injEq, Prod.mk.injEq] at h
    obtain ⟨rfl, rfl⟩ := h
    have q1 : (q != 0) = true := by simpa using hz
    go_wp2
    go_ret2
    exact ⟨_, rfl, Kd.R_nil _ _ _ _ _, HB.out⟩
  subst hz
  rw [if_pos rfl] at h
  simp only [Option.some.injEq, Prod.mk.injEq] at h
  obtain ⟨h1, rfl⟩ := h
  obtain ⟨hp, hlo, hhi⟩ := cErr_at HQ.out.symm
  have few := (pErr_ok hp).few
  have HMF := Aside0.mk (show weigh_marks.f a0 l1 = some (marksL a0 l1) by unfold weigh_marks.f; rw [if_pos hp])
  obtain ⟨n0, rfl⟩ := Int.eq_ofNat_of_zero_le hlo
  have hlen : n0 < (marksL a0 l1).length := by rw [marksL_len']; omega
  rw [show ((n0 : Int)).toNat = n0 from rfl] at h1
  generalize marksL a0 l1 = L at *
  have H1 := Aside0.mk h1
  clear h1 hp
  go_wp2
  have HBd := Aside0.mk (below_drew1 HB.out)
  have BKd := Aside0.mk (blk_drew BK.out)
  refine start_ (n := 12) (S := fun w' => w'.cell? ⟨w.heap.size, 0, none⟩ = some (.int .i64 (n0 : Int)) ∧ w'.cell? ⟨w.heap.size, 1, none⟩ = some (.int .i64 b1)) (ds := []) #[false, false, false, false, false, false, false, false, false, false, false, false] (by kernel_rfl) rfl rfl ⟨(blk_cell BKd.out 0).trans rfl, (blk_cell BKd.out 1).trans rfl⟩ (fun hHeld => ?_)
  refine with_tabW weigh_Answers.tab weigh_Answers.bits (fun HT_ HW_ => ?_)
  clear HB BK
  generalize w1.drew = w2 at HBd BKd hHeld ⊢
  refine pure_ (i := 0) (N := some 18) (v := ?_) (a' := ?_) #[true, false, false, false, false, false, false, false, false, false, false, false] rfl rfl (any_of HT_.out (by kernel_rfl)) (fun _ _ _ h => h) (Or.inl ⟨by rfl, ?_⟩) ?_ ?_
  rotate_left
  · intro w'
    go_simp
    with_reducible rfl
  rotate_left
  · simp only [Act.put, List.setIfInBounds_toArray, List.set_cons_zero, List.set_cons_succ, i64_w, i32_w]
    rfl
  refine pure_ (i := 1) (N := some 19) (v := ?_) (a' := ?_) #[true, true, false, false, false, false, false, false, false, false, false, false] rfl rfl (any_of HT_.out (by kernel_rfl)) (fun _ _ _ h => h) (Or.inl ⟨by rfl, ?_⟩) ?_ ?_
  rotate_left
  · intro w'
    go_simp
    with_reducible rfl
  rotate_left
  · simp only [Act.put, List.setIfInBounds_toArray, List.set_cons_zero, List.set_cons_succ, i64_w, i32_w]
    rfl
  refine pure_ (i := 3) (N := some 21) (v := ?_) (a' := ?_) #[true, true, false, true, false, false, false, false, false, false, false, false] rfl rfl (any_of HT_.out (by kernel_rfl)) (fun _ _ _ h => h) (Or.inl ⟨by rfl, ?_⟩) ?_ ?_
  rotate_left
  · intro w'
    go_simp
    with_reducible rfl
  rotate_left
  · simp only [Act.put, List.setIfInBounds_toArray, List.set_cons_zero, List.set_cons_succ, i64_w, i32_w]
    rfl
  refine pure_ (i := 7) (N := some 25) (v := ?_) (a' := ?_) #[true, true, false, true, false, false, false, true, false, false, false, false] rfl rfl (any_of HT_.out (by kernel_rfl)) (fun _ _ _ h => h) (Or.inl ⟨by rfl, ?_⟩) ?_ ?_
  rotate_left
  · intro w'
    go_simp
    with_reducible rfl
  rotate_left
  · simp only [Act.put, List.setIfInBounds_toArray, List.set_cons_zero, List.set_cons_succ, i64_w, i32_w]
    rfl
  refine take_ (i := 4) (N := some 22) (v := ?_) (a' := ?_) #[true, true, false, true, true, false, false, true, false, false, false, false] rfl rfl (take_ofW HT_.out HW_.out (by kernel_rfl)) (fun _ _ _ h => h) (Or.inl ⟨by rfl, ?_⟩) hHeld ?_ ?_
  rotate_left
  · rintro w' ⟨s0, s1⟩
    go_simp
    with_reducible rfl
  rotate_left
  · simp only [Act.put, List.setIfInBounds_toArray, List.set_cons_zero, List.set_cons_succ, i64_w, i32_w]
    rfl
  refine take_ (i := 8) (N := some 26) (v := ?_) (a' := ?_) #[true, true, false, true, true, false, false, true, true, false, false, false] rfl rfl (take_ofW HT_.out HW_.out (by kernel_rfl)) (fun _ _ _ h => h) (Or.inl ⟨by rfl, ?_⟩) hHeld ?_ ?_
  rotate_left
  · rintro w' ⟨s0, s1⟩
    go_simp
    with_reducible rfl
  rotate_left
  · simp only [Act.put, List.setIfInBounds_toArray, List.set_cons_zero, List.set_cons_succ, i64_w, i32_w]
    rfl
  have ltz : ((n0 : Int) < (L.length : Int)) := by omega
  have gez : (0 : Int) ≤ (n0 : Int) := by omega
  obtain ⟨m, hm⟩ : ∃ m, L.getD n0 z70 = m := ⟨_, rfl⟩
  obtain ⟨t0, ht0⟩ : ∃ z, z = wrap64 (m.f0 * b1) := ⟨_, rfl⟩
  obtain ⟨t1, ht1⟩ : ∃ z, z = wrap64 (m.f1 * b1) := ⟨_, rfl⟩
  obtain ⟨t2, ht2⟩ : ∃ z, z = wrap64 (m.f2 * b1) := ⟨_, rfl⟩
  have HTM := Aside0.mk (show weigh_mark_times.f m.f0 m.f1 m.f2 b1 = some (t0, t1, t2) by rw [ht0, ht1, ht2]; rfl)
  have HR1 := Aside0.mk (show r1 = cut3 l1.length ⟨t0, t1, t2⟩ by rw [← H1.out, hm, ht0, ht1, ht2]; rfl)
  have HC1 := HC
  clear HC H1 ht0 ht1 ht2
  have HB := HBd
  clear HBd
  refine join_ (σ := Addr × Nat × Nat) 1 (l' := #[true, true, true, true, true, true, true, true, true, true, true, false]) (fun s => [(20, .slice (some s.1) L.length s.2.1), (23, .pointer (some (s.1.add (n0 * 3)))), (24, .agg #[.int .i64 m.f0, .int .i64 m.f1, .int .i64 m.f2]), (27, .agg #[.int .i64 t0, .int .i64 t1, .int .i64 t2]), (9, .pointer (some ⟨s.2.2, 0, none⟩))])
    (fun s W => (W.cell? ⟨w.heap.size, 0, none⟩ = some (.int .i64 (n0 : Int)) ∧ W.cell? ⟨w.heap.size, 1, none⟩ = some (.int .i64 b1)) ∧ Kd.C k70 W (some s.1) L.length L ∧ W.heap[s.2.2]? = some (.cells #[.int .i64 0, .int .i64 0, .int .i64 0] 70 (0, 0)) ∧ w.heap.size < s.2.2 ∧ s.1.block ≠ s.2.2 ∧ Below w.heap.size w W) ?_ ?_
  rotate_left
  · intro hCont3
    refine join_ (σ := Addr × Nat × Nat) 2 (l' := #[true, true, true, true, true, true, true, true, true, false, true, false]) (fun s => [(20, .slice (some s.1) L.length s.2.1), (23, .pointer (some (s.1.add (n0 * 3)))), (24, .agg #[.int .i64 m.f0, .int .i64 m.f1, .int .i64 m.f2]), (9, .pointer (some ⟨s.2.2, 0, none⟩))])
      (fun s W => (W.cell? ⟨w.heap.size, 0, none⟩ = some (.int .i64 (n0 : Int)) ∧ W.cell? ⟨w.heap.size, 1, none⟩ = some (.int .i64 b1)) ∧ Kd.C k70 W (some s.1) L.length L ∧ W.heap[s.2.2]? = some (.cells #[.int .i64 0, .int .i64 0, .int .i64 0] 70 (0, 0)) ∧ w.heap.size < s.2.2 ∧ s.1.block ≠ s.2.2 ∧ Below w.heap.size w W) ?_ ?_
    rotate_left
    · intro hCont2
      refine join_ (σ := Addr × Nat × Nat) 3 (l' := #[true, true, true, true, true, true, false, true, true, false, true, false]) (fun s => [(20, .slice (some s.1) L.length s.2.1), (23, .pointer (some (s.1.add (n0 * 3)))), (9, .pointer (some ⟨s.2.2, 0, none⟩))])
        (fun s W => (W.cell? ⟨w.heap.size, 0, none⟩ = some (.int .i64 (n0 : Int)) ∧ W.cell? ⟨w.heap.size, 1, none⟩ = some (.int .i64 b1)) ∧ Kd.C k70 W (some s.1) L.length L ∧ W.heap[s.2.2]? = some (.cells #[.int .i64 0, .int .i64 0, .int .i64 0] 70 (0, 0)) ∧ w.heap.size < s.2.2 ∧ s.1.block ≠ s.2.2 ∧ Below w.heap.size w W) ?_ ?_
      rotate_left
      · intro hCont1
        refine two_ (i := 2) (j := 10) (Ni := some 20) (Nj := some 9) #[true, true, true, true, true, false, false, true, true, false, false, false] #[true, true, false, true, true, false, false, true, true, false, true, false] rfl rfl rfl rfl (two_of HT_.out (by kernel_rfl)) (by decide) (by decide) (fun K hK => ?_) (fun K hK => ?_)
        · refine goes_ Try.func90 (by kernel_rfl) rfl #[.int .i64 a0, .slice A1 l1.length c1] (by rfl) rfl rfl (by (try simp only [List.map_toArray, List.map_cons, List.map_nil]); first | done | rfl) ?_
          refine (weigh_marks.calls a0 A1 c1 l1 L _ (Kd.C_below HR.out HB.out) HC1.out HMF.out).mono ?_
          rintro e W ⟨v, rfl, hO, hb⟩
          refine ⟨_, rfl, ?_⟩
          have hS := And.intro ((hb.cell (World.block_lt_of_cell? _ _ hHeld.1)).trans hHeld.1) ((hb.cell (World.block_lt_of_cell? _ _ hHeld.2)).trans hHeld.2)
          obtain ⟨A, c, rfl⟩ := Kd.R_slice hO
          obtain ⟨_, hLc, hC⟩ := Kd.R_reads' hO
          obtain ⟨ad, hA, _⟩ := hC.2.2 (by omega)
          subst hA
          have hltb := Kd.R_lt hO ad.block rfl
          have hgeb := Kd.R_base hO ad.block rfl
          have hlez : ((n0 : Int) ≤ (c : Int)) := by omega
          have HB1 := Aside0.mk (HB.out.trans (hb.mono HB.out.size))
          clear HB
          have HB := HB1
          clear HB1
          have HC := Aside0.mk hC
          clear hC hO hb
          refine hK.out _ _ hS (fun hHeld => ?_)
          clear hK K hS
          refine norm_ (a' := ?_) ?_ ?_
          rotate_left
          · show Act.put _ (some 20) _ = _
            simp only [Act.put, List.setIfInBounds_toArray, List.set_cons_zero, List.set_cons_succ, i64_w, i32_w]
            rfl
          refine pure_ (i := 5) (N := some 23) (v := ?_) (a' := ?_) #[true, true, true, true, true, true, false, true, true, false, false, false] rfl rfl (any_of HT_.out (by kernel_rfl)) (fun _ _ _ h => h) (Or.inl ⟨by rfl, ?_⟩) ?_ ?_
          rotate_left
          · intro w'
            go_simp
            with_reducible rfl
          rotate_left
          · simp only [Act.put, List.setIfInBounds_toArray, List.set_cons_zero, List.set_cons_succ, i64_w, i32_w]
            rfl
          refine two_ (i := 6) (j := 10) (Ni := some 24) (Nj := some 9) #[true, true, true, true, true, true, true, true, true, false, false, false] #[true, true, true, true, true, true, false, true, true, false, true, false] rfl rfl rfl rfl (two_of HT_.out (by kernel_rfl)) (by decide) (by decide) (fun K hK => ?_) (fun K hK => ?_)
          · obtain ⟨ad', e1, hx0, hx1, hx2⟩ := at_T70 HC.out n0 (by omega) ltz
            cases e1
            simp only [Int.toNat_natCast] at hx0 hx1 hx2
            rw [show rd_T70 L (n0 : Int) = L.getD n0 z70 from rfl, hm] at hx0 hx1 hx2
            refine val_ (v := .agg #[.int .i64 m.f0, .int .i64 m.f1, .int .i64 m.f2]) (by rfl) rfl ?_ ?_
            · first | (go_simp; done) | (go_simp; rfl)
            have hS := hHeld
            clear hx0 hx1 hx2
            refine hK.out _ _ hS (fun hHeld => ?_)
            clear hK K hS
            refine norm_ (a' := ?_) ?_ ?_
            rotate_left
            · show Act.put _ (some 24) _ = _
              simp only [Act.put, List.setIfInBounds_toArray, List.set_cons_zero, List.set_cons_succ, i64_w, i32_w]
              rfl
            refine two_ (i := 9) (j := 10) (Ni := some 27) (Nj := some 9) #[true, true, true, true, true, true, true, true, true, true, false, false] #[true, true, true, true, true, true, true, true, true, false, true, false] rfl rfl rfl rfl (two_of HT_.out (by kernel_rfl)) (by decide) (by decide) (fun K hK => ?_) (fun K hK => ?_)
            · refine goes_ Try.func94 (by kernel_rfl) rfl #[.agg #[.int .i64 m.f0, .int .i64 m.f1, .int .i64 m.f2], .int .i64 b1] (by rfl) rfl rfl (by (try simp only [List.map_toArray, List.map_cons, List.map_nil]); first | done | rfl) ?_
              refine (weigh_mark_times.calls m.f0 m.f1 m.f2 b1 t0 t1 t2 _ HTM.out).mono ?_
              rintro e W ⟨rfl, hb⟩
              refine ⟨_, rfl, ?_⟩
              have hS := And.intro ((hb.cell (World.block_lt_of_cell? _ _ hHeld.1)).trans hHeld.1) ((hb.cell (World.block_lt_of_cell? _ _ hHeld.2)).trans hHeld.2)
              have HB1 := Aside0.mk (HB.out.trans (hb.mono HB.out.size))
              have HC1x := Aside0.mk (Kd.C_below HC.out hb)
              clear HB HC
              have HB := HB1
              have HC := HC1x
              clear HB1 HC1x
              have hltb1 : ad.block < W.heap.size := Nat.lt_of_lt_of_le hltb hb.size
              clear hltb
              have hltb := hltb1
              clear hb
              refine hK.out _ _ hS (fun hHeld => ?_)
              clear hK K hS
              refine norm_ (a' := ?_) ?_ ?_
              rotate_left
              · show Act.put _ (some 27) _ = _
                simp only [Act.put, List.setIfInBounds_toArray, List.set_cons_zero, List.set_cons_succ, i64_w, i32_w]
                rfl
              refine one_ (i := 10) (N := some 9) #[true, true, true, true, true, true, true, true, true, true, true, false] rfl rfl (one_of HT_.out (by kernel_rfl)) (by decide) (fun K hK => ?_)
              refine box_step ?hg (N := 9) ?hd (cs := #[.int .i64 0, .int .i64 0, .int .i64 0]) (t := 70) ?hr ?_; (case hd => rfl); (case hg => rfl); (case hr => first | (go_simp; done) | (go_simp; rfl))
              intro g hg W hbox hb
              have hS := And.intro ((hb.cell (World.block_lt_of_cell? _ _ hHeld.1)).trans hHeld.1) ((hb.cell (World.block_lt_of_cell? _ _ hHeld.2)).trans hHeld.2)
              have hgt : w.heap.size < g := by have := World.block_lt_of_cell? _ _ hHeld.1; dsimp only at this; omega
              have HB1 := Aside0.mk (HB.out.trans (hb.mono HB.out.size))
              clear HB
              have HB := HB1
              clear HB1
              have BKg := Aside0.mk hbox
              have HC1 := Aside0.mk (Kd.C_below HC.out hb)
              clear HC
              have HC := HC1
              clear HC1
              have NE : ad.block ≠ g := by omega
              clear hbox hb
              refine hK.out _ _ hS (fun hHeld => ?_)
              clear hK K hS
              refine norm_ (a' := ?_) ?_ ?_
              rotate_left
              · show Act.put _ (some 9) _ = _
                simp only [Act.put, List.setIfInBounds_toArray, List.set_cons_zero, List.set_cons_succ, i64_w, i32_w]
                rfl
              exact norm_ (by simp only [putAll, Act.put, List.setIfInBounds_toArray, List.set_cons_zero, List.set_cons_succ]) (hCont3 (ad, c, g) _ ⟨hHeld, HC.out, BKg.out, hgt, NE, HB.out⟩)
            · refine box_step ?hg (N := 9) ?hd (cs := #[.int .i64 0, .int .i64 0, .int .i64 0]) (t := 70) ?hr ?_; (case hd => rfl); (case hg => rfl); (case hr => first | (go_simp; done) | (go_simp; rfl))
              intro g hg W hbox hb
              have hS := And.intro ((hb.cell (World.block_lt_of_cell? _ _ hHeld.1)).trans hHeld.1) ((hb.cell (World.block_lt_of_cell? _ _ hHeld.2)).trans hHeld.2)
              have hgt : w.heap.size < g := by have := World.block_lt_of_cell? _ _ hHeld.1; dsimp only at this; omega
              have HB1 := Aside0.mk (HB.out.trans (hb.mono HB.out.size))
              clear HB
              have HB := HB1
              clear HB1
              have BKg := Aside0.mk hbox
              have HC1 := Aside0.mk (Kd.C_below HC.out hb)
              clear HC
              have HC := HC1
              clear HC1
              have NE : ad.block ≠ g := by omega
              clear hbox hb
              refine hK.out _ _ hS (fun hHeld => ?_)
              clear hK K hS
              refine norm_ (a' := ?_) ?_ ?_
              rotate_left
              · show Act.put _ (some 9) _ = _
                simp only [Act.put, List.setIfInBounds_toArray, List.set_cons_zero, List.set_cons_succ, i64_w, i32_w]
                rfl
              exact norm_ (by simp only [putAll, Act.put, List.setIfInBounds_toArray, List.set_cons_zero, List.set_cons_succ]) (hCont2 (ad, c, g) _ ⟨hHeld, HC.out, BKg.out, hgt, NE, HB.out⟩)
          · refine box_step ?hg (N := 9) ?hd (cs := #[.int .i64 0, .int .i64 0, .int .i64 0]) (t := 70) ?hr ?_; (case hd => rfl); (case hg => rfl); (case hr => first | (go_simp; done) | (go_simp; rfl))
            intro g hg W hbox hb
            have hS := And.intro ((hb.cell (World.block_lt_of_cell? _ _ hHeld.1)).trans hHeld.1) ((hb.cell (World.block_lt_of_cell? _ _ hHeld.2)).trans hHeld.2)
            have hgt : w.heap.size < g := by have := World.block_lt_of_cell? _ _ hHeld.1; dsimp only at this; omega
            have HB1 := Aside0.mk (HB.out.trans (hb.mono HB.out.size))
            clear HB
            have HB := HB1
            clear HB1
            have BKg := Aside0.mk hbox
            have HC1 := Aside0.mk (Kd.C_below HC.out hb)
            clear HC
            have HC := HC1
            clear HC1
            have NE : ad.block ≠ g := by omega
            clear hbox hb
            refine hK.out _ _ hS (fun hHeld => ?_)
            clear hK K hS
            refine norm_ (a' := ?_) ?_ ?_
            rotate_left
            · show Act.put _ (some 9) _ = _
              simp only [Act.put, List.setIfInBounds_toArray, List.set_cons_zero, List.set_cons_succ, i64_w, i32_w]
              rfl
            exact norm_ (by simp only [putAll, Act.put, List.setIfInBounds_toArray, List.set_cons_zero, List.set_cons_succ]) (hCont1 (ad, c, g) _ ⟨hHeld, HC.out, BKg.out, hgt, NE, HB.out⟩)
        · refine box_step ?hg (N := 9) ?hd (cs := #[.int .i64 0, .int .i64 0, .int .i64 0]) (t := 70) ?hr ?_; (case hd => rfl); (case hg => rfl); (case hr => first | (go_simp; done) | (go_simp; rfl))
          intro g hg W hbox hb
          have hS := And.intro ((hb.cell (World.block_lt_of_cell? _ _ hHeld.1)).trans hHeld.1) ((hb.cell (World.block_lt_of_cell? _ _ hHeld.2)).trans hHeld.2)
          have hgt : w.heap.size < g := by have := World.block_lt_of_cell? _ _ hHeld.1; dsimp only at this; omega
          have HB1 := Aside0.mk (HB.out.trans (hb.mono HB.out.size))
          clear HB
          have HB := HB1
          clear HB1
          have BKg := Aside0.mk hbox
          clear hbox hb
          refine hK.out _ _ hS (fun hHeld => ?_)
          clear hK K hS
          refine norm_ (a' := ?_) ?_ ?_
          rotate_left
          · show Act.put _ (some 9) _ = _
            simp only [Act.put, List.setIfInBounds_toArray, List.set_cons_zero, List.set_cons_succ, i64_w, i32_w]
            rfl
          refine one_ (i := 2) (N := some 20) #[true, true, true, true, true, false, false, true, true, false, true, false] rfl rfl (one_of HT_.out (by kernel_rfl)) (by decide) (fun K hK => ?_)
          refine goes_ Try.func90 (by kernel_rfl) rfl #[.int .i64 a0, .slice A1 l1.length c1] (by rfl) rfl rfl (by (try simp only [List.map_toArray, List.map_cons, List.map_nil]); first | done | rfl) ?_
          refine (weigh_marks.calls a0 A1 c1 l1 L _ (Kd.C_below HR.out HB.out) HC1.out HMF.out).mono ?_
          rintro e W ⟨v, rfl, hO, hb⟩
          refine ⟨_, rfl, ?_⟩
          have hS := And.intro ((hb.cell (World.block_lt_of_cell? _ _ hHeld.1)).trans hHeld.1) ((hb.cell (World.block_lt_of_cell? _ _ hHeld.2)).trans hHeld.2)
          obtain ⟨A, c, rfl⟩ := Kd.R_slice hO
          obtain ⟨_, hLc, hC⟩ := Kd.R_reads' hO
          obtain ⟨ad, hA, _⟩ := hC.2.2 (by omega)
          subst hA
          have hltb := Kd.R_lt hO ad.block rfl
          have hgeb := Kd.R_base hO ad.block rfl
          have hlez : ((n0 : Int) ≤ (c : Int)) := by omega
          have HB1 := Aside0.mk (HB.out.trans (hb.mono HB.out.size))
          clear HB
          have HB := HB1
          clear HB1
          have HC := Aside0.mk hC
          have NE : ad.block ≠ g := by have := blk_lt BKg.out; omega
          have BKg1 := Aside0.mk (blk_below BKg.out hb)
          clear BKg
          have BKg := BKg1
          clear BKg1
          clear hC hO hb
          refine hK.out _ _ hS (fun hHeld => ?_)
          clear hK K hS
          refine norm_ (a' := ?_) ?_ ?_
          rotate_left
          · show Act.put _ (some 20) _ = _
            simp only [Act.put, List.setIfInBounds_toArray, List.set_cons_zero, List.set_cons_succ, i64_w, i32_w]
            rfl
          refine pure_ (i := 5) (N := some 23) (v := ?_) (a' := ?_) #[true, true, true, true, true, true, false, true, true, false, true, false] rfl rfl (any_of HT_.out (by kernel_rfl)) (fun _ _ _ h => h) (Or.inl ⟨by rfl, ?_⟩) ?_ ?_
          rotate_left
          · intro w'
            go_simp
            with_reducible rfl
          rotate_left
          · simp only [Act.put, List.setIfInBounds_toArray, List.set_cons_zero, List.set_cons_succ, i64_w, i32_w]
            rfl
          exact norm_ (by simp only [putAll, Act.put, List.setIfInBounds_toArray, List.set_cons_zero, List.set_cons_succ]) (hCont1 (ad, c, g) _ ⟨hHeld, HC.out, BKg.out, hgt, NE, HB.out⟩)
      · rintro ⟨ad, c, g⟩ W ⟨hHeld, hC, hbox, hgt, NE, hB⟩
        dsimp only at hC hbox hgt NE
        clear HB
        have HB := Aside0.mk hB
        have HC := Aside0.mk hC
        have BKg := Aside0.mk hbox
        clear hC hbox hB
        refine norm_ (a' := ?_) ?_ ?_
        rotate_left
        · simp only [putAll, Act.put, List.setIfInBounds_toArray, List.set_cons_zero, List.set_cons_succ]
          rfl
        refine one_ (i := 6) (N := some 24) #[true, true, true, true, true, true, true, true, true, false, true, false] rfl rfl (one_of HT_.out (by kernel_rfl)) (by decide) (fun K hK => ?_)
        obtain ⟨ad', e1, hx0, hx1, hx2⟩ := at_T70 HC.out n0 (by omega) ltz
        cases e1
        simp only [Int.toNat_natCast] at hx0 hx1 hx2
        rw [show rd_T70 L (n0 : Int) = L.getD n0 z70 from rfl, hm] at hx0 hx1 hx2
        refine val_ (v := .agg #[.int .i64 m.f0, .int .i64 m.f1, .int .i64 m.f2]) (by rfl) rfl ?_ ?_
        · first | (go_simp; done) | (go_simp; rfl)
        have hS := hHeld
        clear hx0 hx1 hx2
        refine hK.out _ _ hS (fun hHeld => ?_)
        clear hK K hS
        refine norm_ (a' := ?_) ?_ ?_
        rotate_left
        · show Act.put _ (some 24) _ = _
          simp only [Act.put, List.setIfInBounds_toArray, List.set_cons_zero, List.set_cons_succ, i64_w, i32_w]
          rfl
        exact norm_ (by simp only [putAll, Act.put, List.setIfInBounds_toArray, List.set_cons_zero, List.set_cons_succ]) (hCont2 (ad, c, g) _ ⟨hHeld, HC.out, BKg.out, hgt, NE, HB.out⟩)
    · rintro ⟨ad, c, g⟩ W ⟨hHeld, hC, hbox, hgt, NE, hB⟩
      dsimp only at hC hbox hgt NE
      clear HB
      have HB := Aside0.mk hB
      have HC := Aside0.mk hC
      have BKg := Aside0.mk hbox
      clear hC hbox hB
      refine norm_ (a' := ?_) ?_ ?_
      rotate_left
      · simp only [putAll, Act.put, List.setIfInBounds_toArray, List.set_cons_zero, List.set_cons_succ]
        rfl
      refine one_ (i := 9) (N := some 27) #[true, true, true, true, true, true, true, true, true, true, true, false] rfl rfl (one_of HT_.out (by kernel_rfl)) (by decide) (fun K hK => ?_)
      refine goes_ Try.func94 (by kernel_rfl) rfl #[.agg #[.int .i64 m.f0, .int .i64 m.f1, .int .i64 m.f2], .int .i64 b1] (by rfl) rfl rfl (by (try simp only [List.map_toArray, List.map_cons, List.map_nil]); first | done | rfl) ?_
      refine (weigh_mark_times.calls m.f0 m.f1 m.f2 b1 t0 t1 t2 _ HTM.out).mono ?_
      rintro e W ⟨rfl, hb⟩
      refine ⟨_, rfl, ?_⟩
      have hS := And.intro ((hb.cell (World.block_lt_of_cell? _ _ hHeld.1)).trans hHeld.1) ((hb.cell (World.block_lt_of_cell? _ _ hHeld.2)).trans hHeld.2)
      have HB1 := Aside0.mk (HB.out.trans (hb.mono HB.out.size))
      have HC1x := Aside0.mk (Kd.C_below HC.out hb)
      clear HB HC
      have HB := HB1
      have HC := HC1x
      clear HB1 HC1x
      have BKg1 := Aside0.mk (blk_below BKg.out hb)
      clear BKg
      have BKg := BKg1
      clear BKg1
      clear hb
      refine hK.out _ _ hS (fun hHeld => ?_)
      clear hK K hS
      refine norm_ (a' := ?_) ?_ ?_
      rotate_left
      · show Act.put _ (some 27) _ = _
        simp only [Act.put, List.setIfInBounds_toArray, List.set_cons_zero, List.set_cons_succ, i64_w, i32_w]
        rfl
      exact norm_ (by simp only [putAll, Act.put, List.setIfInBounds_toArray, List.set_cons_zero, List.set_cons_succ]) (hCont3 (ad, c, g) _ ⟨hHeld, HC.out, BKg.out, hgt, NE, HB.out⟩)
  rintro ⟨ad, c, g⟩ W ⟨hHeld, hC, hbox, hgt, NE, hB⟩
  dsimp only at hC hbox hgt NE
  clear HB
  have HB := Aside0.mk hB
  have HC := Aside0.mk hC
  have BKg := Aside0.mk hbox
  clear hC hbox hB
  refine norm_ (a' := ?_) ?_ ?_
  rotate_left
  · simp only [putAll, Act.put, List.setIfInBounds_toArray, List.set_cons_zero, List.set_cons_succ]
    rfl
  refine one_ (i := 11) (N := none) #[true, true, true, true, true, true, true, true, true, true, true, true] rfl rfl (one_of HT_.out (by kernel_rfl)) (by decide) (fun K hK => ?_)
  have nb : w.heap.size ≠ g := by omega
  have hs0 := blk_cell BKg.out 0
  have hs1 := blk_cell BKg.out 1
  have hs2 := blk_cell BKg.out 2
  simp only [List.getElem?_toArray, List.getElem?_cons_zero, List.getElem?_cons_succ] at hs0 hs1 hs2
  have hf0 := blk_frozen BKg.out 0
  have hf1 := blk_frozen BKg.out 1
  have hf2 := blk_frozen BKg.out 2
  refine skip_ (w1 := ?_) (by rfl) rfl ?_ ?_
  rotate_left
  · go_simp
    rfl
  refine hK.out _ _ ⟨((cell_far (p := ⟨g, _, none⟩) nb _).trans ((cell_far (p := ⟨g, _, none⟩) nb _).trans ((cell_far (p := ⟨g, _, none⟩) nb _).trans hHeld.1))), ((cell_far (p := ⟨g, _, none⟩) nb _).trans ((cell_far (p := ⟨g, _, none⟩) nb _).trans ((cell_far (p := ⟨g, _, none⟩) nb _).trans hHeld.2)))⟩ (fun hHeld => ?_)
  clear hK K
  refine done_ (done_of HT_.out (by kernel_rfl)) ?_
  have BK' := Aside0.mk (blk_set (blk_set (blk_set BKg.out 0 (.int .i64 t0)) 1 (.int .i64 t1)) 2 (.int .i64 t2))
  have HB' : Aside0 (Below w.heap.size w (((W.setCell ⟨g, 0, none⟩ (.int .i64 t0)).setCell ⟨g, 1, none⟩ (.int .i64 t1)).setCell ⟨g, 2, none⟩ (.int .i64 t2))) := ⟨below_set (below_set (below_set HB.out (Nat.le_of_lt hgt)) (Nat.le_of_lt hgt)) (Nat.le_of_lt hgt)⟩
  clear hs0 hs1 hs2 hf0 hf1 hf2 hHeld
  generalize (((W.setCell ⟨g, 0, none⟩ (.int .i64 t0)).setCell ⟨g, 1, none⟩ (.int .i64 t1)).setCell ⟨g, 2, none⟩ (.int .i64 t2)) = W6 at *
  have hsl := fun (W : World) (B : Nat) => slice70 W B l1.length few
  have CF := Aside0.mk (show slices_Clone_int_int.f (cut3 l1.length ⟨t0, t1, t2⟩) = some (cut3 l1.length ⟨t0, t1, t2⟩) by unfold slices_Clone_int_int.f; rw [if_pos]; simp [cut3]; omega)
  have CL : (cut3 l1.length ⟨t0, t1, t2⟩).length = l1.length := by simp [cut3]; omega
  go_wp2_with fail
  have hcall := slices_Clone_int_int.calls (some ⟨g, 0, none⟩) 3 (cut3 l1.length ⟨t0, t1, t2⟩) (cut3 l1.length ⟨t0, t1, t2⟩) W6 (by rw [CL]; exact C_block (l := [t0, t1, t2]) BK'.out l1.length few (by simp)) (by rw [CL]; exact few) CF.out
  rw [CL] at hcall
  refine hcall.mono ?_
  rintro e w' ⟨vc, rfl, hO1, hb1⟩
  have HO1 := Aside0.mk (Kd.R_lower hO1 HB'.out.size)
  have HB1 := Aside0.mk (HB'.out.trans (hb1.mono HB'.out.size))
  clear hO1 hb1 hcall
  go_wp2
  go_ret2
  exact ⟨_, rfl, by rw [HR1.out]; exact HO1.out, HB1.out⟩
end Go.Proofs.Ytdbeochifofdoaa.X
end

section
-- Written by a program of this session (wip/hook.py, which runs the kit's print.py with contracts proved by hand). Not trusted: Lean checks it.
namespace Go.Proofs.Ytdbeochifofdoaa.X
open Go.RowKit Go.Proofs.YtdbeochifofdoaaW.PrintWords Go.Proofs.YtdbeochifofdoaaW.PrintLast Go.Proofs.YtdbeochifofdoaaW.PrintMore
attribute [local go_sem] max2_int min2_int max_two min_two max_three min_three max_four min_four   -- for this text's walks alone
set_option linter.unusedVariables false
set_option linter.unusedSimpArgs false

/-! ### weigh_cases: function 93 -/
def weigh_cases.l0 : Nat → List (S35) → Int → Int → Option ((List (S35)))
  | 0, _, _, _ => none
  | k + 1, x3, x5, x6 => if x6 < x5 then ((some (([(⟨x6, (-1)⟩ : S35), (⟨x6, 1⟩ : S35)] : List (S35)) : List (S35))).bind fun y365 => (if x3.length + y365.length < 8796093022208 then (weigh_cases.l0 k (x3 ++ y365) x5 (wrap64 (x6 + 1))) else (none))) else (some x3)
def weigh_cases.f (k : Nat) (a0 : Int) : Option ((List (S35))) := weigh_cases.l0 k ([] : List (S35)) a0 0
theorem weigh_cases.mono_l : ∀ k, (∀ y0 y1 y2, LeO (weigh_cases.l0 k y0 y1 y2) (weigh_cases.l0 (k + 1) y0 y1 y2))
  | 0 => fun _ _ _ r h => by simp [weigh_cases.l0] at h
  | k + 1 => by
    have ih0 := weigh_cases.mono_l k
    · intro y0 y1 y2
      unfold weigh_cases.l0
      repeat' first
      | (with_reducible exact ih0 _ _ _)
      | (with_reducible exact LeO.refl _)
      | (with_reducible exact LeO.none _)
      | (with_reducible refine LeO.ite ?_ ?_)
      | (with_reducible refine LeO.bind ?_ (fun _ => ?_))
      | exact ih0 _ _ _
      | exact LeO.none _
      | refine LeO.ite ?_ ?_
      | refine LeO.bind ?_ (fun _ => ?_)
theorem weigh_cases.mono : ∀ a0 k, LeO (weigh_cases.f k a0) (weigh_cases.f (k + 1) a0) := by
  intro a0 k
  have ih0 := weigh_cases.mono_l k
  unfold weigh_cases.f
  repeat' first
      | (with_reducible exact ih0 _ _ _)
      | (with_reducible exact LeO.refl _)
      | (with_reducible exact LeO.none _)
      | (with_reducible refine LeO.ite ?_ ?_)
      | (with_reducible refine LeO.bind ?_ (fun _ => ?_))
      | exact ih0 _ _ _
      | exact LeO.none _
      | refine LeO.ite ?_ ?_
      | refine LeO.bind ?_ (fun _ => ?_)
set_option maxHeartbeats 8000000 in
set_option maxRecDepth 100000 in
theorem weigh_cases.calls (k : Nat) (a0 : Int) (r : List (S35)) (w : World) (h : weigh_cases.f k a0 = some r) :
    Calls Try.prog 93 #[.int .i64 a0] w fun e w' => ∃ v0_ : Value, e = .returned (v0_) ∧ Kd.R k35 35 w' w.heap.size (fun _ => True) v0_ r ∧ Below w.heap.size w w' := by
  have hu35 := Try.underlying35
  have HB := Aside0.mk (Below.refl w.heap.size w)
  have H : (weigh_cases.l0 k ([] : List (S35)) a0 0) = some r := h
  clear h
  have H' := Aside0.mk H
  clear H
  go_enter Try.func93, Try.ntmps93
  go_wp2
  go_loopg [3, 6] k (fun kq v3 v6 w' => ∃ (x3_1 : List (S35)) (x6_1 : Int), v6 = .int .i64 x6_1 ∧ Aside0 (weigh_cases.l0 kq x3_1 a0 x6_1 = some r) ∧ Aside0 (kq ≤ k) ∧ Aside0 (Kd.R k35 35 w' w.heap.size (fun _ => True) v3 x3_1) ∧ Aside0 (Below w.heap.size w w'))
  case atStart => exact ⟨(([] : List (S35))), (0), (by first | rfl | (simp; done) | (simp [*]; done)), H', ⟨Nat.le_refl _⟩, ⟨by first | exact Kd.R_nil _ _ _ _ _ | exact Kd.N_nil _ _ _ _ _ | exact Kd.V_nil _ _ _ _ _ | exact Kd.Q_nil _ _ _ _ _ | exact Kd.S_nil _ _ _ _ _⟩, ⟨by repeat (first | (with_reducible first | exact HB.out | apply below_alloc | apply pw_below_drewN | apply below_drew1) | exact HB.out)⟩⟩
  case round =>
    clear H'
    obtain ⟨x3_1, x6_1, rfl, HA, HK1, HO_3, HB⟩ := hrel
    cases gk with
    | zero => exact absurd HA.out (by simp [weigh_cases.l0])
    | succ k1 =>
      have H := HA.out
      clear HA
      simp only [weigh_cases.l0] at H
      by_cases c2 : x6_1 < a0
      · rw [if_pos c2] at H
        have c2b0 : decide (x6_1 < a0) = true := decide_eq_true c2
        clear c2
        obtain ⟨y365, hy365⟩ : ∃ y_ : List (S35), y_ = (([(⟨x6_1, (-1)⟩ : S35), (⟨x6_1, 1⟩ : S35)] : List (S35))) := ⟨_, rfl⟩
        replace H : (if x3_1.length + y365.length < 8796093022208 then (weigh_cases.l0 k1 (x3_1 ++ y365) a0 (wrap64 (x6_1 + 1))) else (none)) = some r := by first | (rw [hy365]; with_reducible exact H) | (have H2_ := (Option.bind_some _ _).symm.trans H; rw [hy365]; with_reducible exact H2_) | (have H2_ := (Option.bind_some _ _).symm.trans H; with_reducible exact H2_) | with_reducible exact H | (rw [hy365]; exact H) | exact H
        have Ny365 := Aside0.mk hy365
        clear hy365
        by_cases c3 : x3_1.length + y365.length < 8796093022208
        · rw [if_pos c3] at H
          have LMc3 := Aside0.mk c3
          clear c3
          obtain ⟨y368, hy368⟩ : ∃ y_ : List (S35), y_ = (x3_1 ++ y365) := ⟨_, rfl⟩
          replace H : (weigh_cases.l0 k1 y368 a0 (wrap64 (x6_1 + 1))) = some r := by first | (rw [hy368]; with_reducible exact H) | (have H2_ := (Option.bind_some _ _).symm.trans H; rw [hy368]; with_reducible exact H2_) | (have H2_ := (Option.bind_some _ _).symm.trans H; with_reducible exact H2_) | with_reducible exact H | (rw [hy368]; exact H) | exact H
          have Ny368 := Aside0.mk hy368
          clear hy368
          have H' := Aside0.mk H
          clear H
          go_wp2_with (first | ((with_reducible refine gate_dst (N := 14) rfl ?_); refine Kd.R_lit k35 _ 35 ?hg (N := 14) ?hd (xs := ([(⟨x6_1, (-1)⟩ : S35), (⟨x6_1, 1⟩ : S35)] : List (S35))) (inner := [.int .i64 x6_1, .int .i64 (-1), .int .i64 x6_1, .int .i64 1]) (ok := fun _ => True) (okp := fun _ => True) ?hr ?hp (fun _ hk => hk) trivial (Below.refl _ _) (Nat.le_refl _) (by simp) ?_; (case hd => rfl); (case hg => rfl); (case hr => first | (go_simp; done) | (go_simp; rfl)); (case hp => exact (Reps.c2 (show Kd.M k35 _ _ _ (⟨x6_1, (-1)⟩ : S35) [.int .i64 x6_1, .int .i64 (-1)] from (k35_mkM _ _ _ (⟨x6_1, (-1)⟩ : S35) )) (Reps.c2 (show Kd.M k35 _ _ _ (⟨x6_1, 1⟩ : S35) [.int .i64 x6_1, .int .i64 1] from (k35_mkM _ _ _ (⟨x6_1, 1⟩ : S35) )) (Reps.none _ _)))); intro v366 w4 ho5 hb hg_ hnew_; clear hg_ hnew_; (first | rw [← Ny365.out] at ho5 | (simp only [Int.reduceToNat] at ho5; rw [← Ny365.out] at ho5)); have n0_ := Aside0.mk (Kd.R_elder' (by (with_reducible repeat (first | apply Kd.R_alloc | apply Kd.R_drewN | apply Kd.R_drew)); exact HO_3.out) (Kd.R_base ho5) hb); have n1_ := Aside0.mk (Kd.R_lower (Kd.R_new' ho5 (Kd.R_lt (by (with_reducible repeat (first | apply Kd.R_alloc | apply Kd.R_drewN | apply Kd.R_drew)); exact HO_3.out))) (below_size (by repeat (first | (with_reducible first | exact HB.out | apply below_alloc | apply pw_below_drewN | apply below_drew1) | exact HB.out)))); have n2_ := Aside0.mk (below_step (by repeat (first | (with_reducible first | exact HB.out | apply below_alloc | apply pw_below_drewN | apply below_drew1) | exact HB.out)) hb); clear HO_3; clear HB; have HO_3 := n0_; have HO367 := n1_; have HB := n2_; clear n0_ n1_ n2_; clear hb ho5; obtain ⟨Ao7, co7, eo7⟩ := Kd.R_slice HO367.out; subst eo7) | ((with_reducible refine gate_builtin (b := .append) (xs := #[.tmp 9, .tmp 14]) rfl ?_); at_builtin; refine Kd.R_append_rows k35 (w0 := w) w.heap.size rfl (.tmp 9) (.tmp 14) 71 35 (.agg #[(.int .i64 0), (.int .i64 0)]) 16 rfl Try.underlying71 info35 rfl (by decide) (by omega) u3 x3_1 y365 _ _ _ (fun k_ => some k_ ≠ (.slice Ao7 y365.length co7 : Value).ownBlock) (fun _ => False) rfl rfl ?aO ?aR (fun _ _ h => h) (fun _ h => h.elim) ?aF ?aB ?aS ?aL ?_; (case aR => repeat (first | exact (Kd.R_reads' HO367.out).2.2 | (with_reducible refine Kd.C_alloc ?_ _) | (with_reducible refine Kd.C_drewN ?_ _) | (with_reducible refine Kd.C_drew ?_))); (case aB => exact (by repeat (first | (with_reducible first | exact HB.out | apply below_alloc | apply pw_below_drewN | apply below_drew1) | exact HB.out))); (case aF => exact (fun k_ hk => Kd.fresh' (Kd.R_lt (by (with_reducible repeat (first | apply Kd.R_alloc | apply Kd.R_drewN | apply Kd.R_drew)); exact HO367.out)) k_ hk)); (case aO => exact (by (with_reducible repeat (first | apply Kd.R_alloc | apply Kd.R_drewN | apply Kd.R_drew)); exact Kd.R_mono HO_3.out (fun _ hk => hk.2))); (case aS => exact (below_size (by repeat (first | (with_reducible first | exact HB.out | apply below_alloc | apply pw_below_drewN | apply below_drew1) | exact HB.out)))); (case aL => have := LMc3.out; omega); intro v369 w6 ho hb hg hat; rw [← Ny368.out] at ho; have n0_ := Aside0.mk (Kd.R_after (ok := (fun _ => True)) (by (with_reducible repeat (first | apply Kd.R_alloc | apply Kd.R_drewN | apply Kd.R_drew)); exact HO367.out) hg hat); have n1_ := Aside0.mk (hb); have n2_ := Aside0.mk (ho); clear HO367; clear HB; clear HO_3; have HO367 := n0_; have HB := n1_; have HO370 := n2_; clear n0_ n1_ n2_; clear ho hb hg hat))
          go_roundg k1
          case measure => have := HK1.out; omega
          case rel => exact ⟨(y368), (wrap64 (x6_1 + 1)), (by first | rfl | (simp; done) | (simp [*]; done)), H', ⟨by have := HK1.out; omega⟩, ⟨by (with_reducible repeat (first | apply Kd.R_alloc | apply Kd.R_drewN | apply Kd.R_drew)); exact Kd.R_mono HO370.out (fun _ hk => trivial)⟩, ⟨by repeat (first | (with_reducible first | exact HB.out | apply below_alloc | apply pw_below_drewN | apply below_drew1) | exact HB.out)⟩⟩
        · rw [if_neg c3] at H
          exact absurd H (by simp)
      · rw [if_neg c2] at H
        have c2b0 : decide (x6_1 < a0) = false := decide_eq_false c2
        clear c2
        obtain rfl := Option.some.inj H
        go_wp2
        go_ret
        exact ⟨_, by first | rfl | (simp [errW_none, errW_some] <;> rfl) | (simp [*, errW_none, errW_some] <;> rfl), by (with_reducible repeat (first | apply Kd.R_alloc | apply Kd.R_drewN | apply Kd.R_drew)); exact HO_3.out, by repeat (first | (with_reducible first | exact HB.out | apply below_alloc | apply pw_below_drewN | apply below_drew1) | exact HB.out)⟩

-- GIVEN: function 55 (weigh_Possible): YtdbeochifofdoaaG55

end Go.Proofs.Ytdbeochifofdoaa.X
end

section
/-! weigh.Cases. -/
namespace Go.Proofs.Ytdbeochifofdoaa.X
open Go.RowKit Go.Proofs.YtdbeochifofdoaaW.PrintWords Go.Proofs.YtdbeochifofdoaaW.PrintLast Go.Proofs.YtdbeochifofdoaaW.PrintMore
set_option linter.unusedVariables false
set_option linter.unusedSimpArgs false
attribute [local go_sem high] eqA70

/-- All cases. -/
def casesL (lots : Int) : List S35 := (List.range lots.toNat).flatMap fun (n : Nat) => ([⟨(n : Int), -1⟩, ⟨(n : Int), 1⟩] : List S35)
def of3 (l : List Int) : S70 := ⟨l.getD 0 0, l.getD 1 0, l.getD 2 0⟩
def eq3 (a b : S70) : Bool := a.f0 == b.f0 && (a.f1 == b.f1 && a.f2 == b.f2)
def pickB (L : List S70) (g : S70) (c : S35) : Bool := eq3 (tim3 (L.getD c.f0.toNat z70) c.f1) g
def sideB (l : List Int) : Bool := l.any fun x => !(decide (-1 ≤ x) && decide (x ≤ 1))
def weigh_Cases.f (a0 : Int) (l1 : List S53) (l2 : List Int) : Option (List S35 × Bool × Int) :=
  if pErr a0 l1 = 0 then (if (l2.length != l1.length || sideB l2) = true then some ([], false, 1) else some ((casesL a0).filter (pickB (marksL a0 l1) (of3 l2)), isZ (of3 l2), 0)) else some ([], false, pErr a0 l1)
instance decS35 : DecidableEq S35 := fun a b => decidable_of_iff (a.f0 = b.f0 ∧ a.f1 = b.f1) (by cases a; cases b; simp)
set_option maxRecDepth 100000 in
theorem cases_is : ∀ n, n < 13 → weigh_cases.f 20 ((n + 1 : Nat) : Int) = some (casesL ((n + 1 : Nat) : Int)) := by decide +kernel
theorem eg102 (args : Array Value) (w : World) : (callFunc 102 args).run Try.prog w = .ok (.enter 102 args) w := enters_of Try.func102 (by kernel_rfl) rfl args w
theorem casesL_mem {lots : Int} {c : S35} (h : c ∈ casesL lots) : 0 ≤ c.f0 ∧ c.f0.toNat < lots.toNat := by
  unfold casesL at h
  rw [List.mem_flatMap] at h
  obtain ⟨n, hn, hc⟩ := h
  rw [List.mem_range] at hn
  simp only [List.mem_cons, List.not_mem_nil, or_false] at hc
  rcases hc with rfl | rfl <;> exact ⟨by simp, by simpa using hn⟩
theorem casesL_len (lots : Int) : (casesL lots).length = 2 * lots.toNat := by
  unfold casesL
  induction lots.toNat with
  | zero => rfl
  | succ n ih => rw [List.range_succ, List.flatMap_append, List.length_append, ih]; simp; omega
/-- The given answers, in a mark. -/
theorem splice3 (l : List Int) (h : l.length ≤ 3) : splice [Value.int .i64 0, .int .i64 0, .int .i64 0] 0 (l.map (Value.int .i64)) = [.int .i64 (of3 l).f0, .int .i64 (of3 l).f1, .int .i64 (of3 l).f2] := by
  match l, h with
  | [], _ => rfl
  | [a], _ => rfl
  | [a, b], _ => rfl
  | [a, b, c], _ => rfl
set_option maxHeartbeats 4000000 in
set_option maxRecDepth 100000 in
theorem weigh_Cases.calls (a0 : Int) (A1 : Option Addr) (c1 : Nat) (l1 : List S53) (A2 : Option Addr) (c2 : Nat) (l2 : List Int) (r1 : List S35) (r2 : Bool) (r3 : Int) (w : World) (hr1 : Kd.C k53 w A1 l1.length l1) (hc1 : l1.length ≤ c1) (hr2 : Kd.C (Kd.int .i64) w A2 l2.length l2) (hc2 : l2.length ≤ c2) (h : weigh_Cases.f a0 l1 l2 = some (r1, r2, r3)) :
    Calls Try.prog 64 #[.int .i64 a0, .slice A1 l1.length c1, .slice A2 l2.length c2] w fun e w' => ∃ v0_ : Value, e = .returned (.tuple #[v0_, .bool r2, .int .i64 r3]) ∧ Kd.R k35 35 w' w.heap.size (fun _ => True) v0_ r1 ∧ Below w.heap.size w w' := by
  have HR1 := Aside0.mk hr1
  have HR2 := Aside0.mk hr2
  have HC1 := Aside0.mk hc1
  unfold weigh_Cases.f at h
  obtain ⟨p, hpe⟩ : ∃ p, p = pErr a0 l1 := ⟨_, rfl⟩
  have HF := Aside0.mk (show weigh_Validate.f a0 l1 = some p by rw [hpe]; rfl)
  have HP := Aside0.mk hpe
  rw [← hpe] at h
  clear hpe hr1 hc1 hr2
  go_enter Try.func64, Try.ntmps64
  go_wp2_with fail
  refine (weigh_Validate.calls a0 A1 c1 l1 p _ HR1.out HC1.out HF.out).mono ?_
  rintro e w1 ⟨rfl, hb⟩
  have HB1 := Aside0.mk hb
  clear hb
  by_cases hz : p = 0
  rotate_left
  · rw [if_neg hz] at h
    simp only [Option.some.injEq, Prod.mk.injEq] at h
    obtain ⟨rfl, rfl, rfl⟩ := h
    have q1 : (p != 0) = true := by simpa using hz
    go_wp2
    go_ret3
    exact ⟨_, rfl, Kd.R_nil _ _ _ _ _, HB1.out⟩
  subst hz
  rw [if_pos rfl] at h
  have ok := pErr_ok HP.out.symm
  have few := ok.few
  have HMF := Aside0.mk (show weigh_marks.f a0 l1 = some (marksL a0 l1) by unfold weigh_marks.f; rw [if_pos HP.out.symm])
  have hlen : (marksL a0 l1).length = a0.toNat := marksL_len' a0 l1
  have hlo := ok.lo
  have hhi := ok.hi
  obtain ⟨n, rfl⟩ := Int.eq_ofNat_of_zero_le (show 0 ≤ a0 by omega)
  have hCF := cases_is (n - 1) (by omega)
  rw [show n - 1 + 1 = n by omega] at hCF
  have HCF := Aside0.mk hCF
  have hcm : ∀ c, c ∈ casesL (n : Int) → 0 ≤ c.f0 ∧ c.f0.toNat < (marksL (n : Int) l1).length := fun c hc => by have := casesL_mem hc; rw [hlen]; exact this
  have hcl : (casesL (n : Int)).length ≤ 26 := by rw [casesL_len]; omega
  generalize casesL (n : Int) = cs at *
  generalize marksL (n : Int) l1 = L at *
  have HCM := Aside0.mk hcm
  clear hcm hCF ok hlen
  by_cases he : l2.length = l1.length
  rotate_left
  · have q1 : ((l2.length : Int) != (l1.length : Int)) = true := bne_iff_ne.mpr (by omega)
    have q2 : (l2.length != l1.length || sideB l2) = true := by simp [he]
    rw [if_pos q2] at h
    simp only [Option.some.injEq, Prod.mk.injEq] at h
    obtain ⟨rfl, rfl, rfl⟩ := h
    go_wp2
    go_ret3
    exact ⟨_, rfl, Kd.R_nil _ _ _ _ _, HB1.out⟩
  have q1 : ((l2.length : Int) != (l1.length : Int)) = false := bne_eq_false_iff_eq.mpr (by omega)
  have sl3 : l2.length ≤ 3 := by omega
  have HE := Aside0.mk he
  clear he
  go_wp2_with fail
  refine (containsFunc97 102 #[] eg102 (fun x => !(decide (-1 ≤ x) && decide (x ≤ 1))) A2 c2 l2 _ ?hr ?hp).mono ?_
  case hr => exact Kd.C_below HR2.out HB1.out
  case hp =>
    intro W x _ hbW
    exact lit102 x W
  rintro e w2 ⟨rfl, hb2⟩
  have HB2 := Aside0.mk (HB1.out.trans (hb2.mono HB1.out.size))
  clear HB1 hb2
  rw [show (l2.any fun x => !(decide (-1 ≤ x) && decide (x ≤ 1))) = sideB l2 from rfl]
  cases hs : sideB l2 with
  | true =>
    have q2 : (l2.length != l1.length || sideB l2) = true := by simp [hs]
    rw [if_pos q2] at h
    simp only [Option.some.injEq, Prod.mk.injEq] at h
    obtain ⟨rfl, rfl, rfl⟩ := h
    go_wp2
    go_ret3
    exact ⟨_, rfl, Kd.R_nil _ _ _ _ _, HB2.out⟩
  | false =>
    have q2 : (l2.length != l1.length || sideB l2) = false := by simp [hs, HE.out]
    rw [q2, if_neg (by simp)] at h
    simp only [Option.some.injEq, Prod.mk.injEq] at h
    obtain ⟨h1, h2, rfl⟩ := h
    have H1 := Aside0.mk h1
    have H2 := Aside0.mk h2
    have hsl := slice70all
    clear h1 h2 q2 hs
    go_wp2_with (with_reducible refine wpList_copy_splice rfl (.tmp 30) (.tmp 31) 43 43 rfl 3 Try.underlying43 (by kernel_rfl) (some ⟨w2.heap.size, 0, none⟩) A2 3 3 l2.length c2 rfl rfl w2.heap.size 0 [.int .i64 0, .int .i64 0, .int .i64 0] 70 ?cg (l2.map (Value.int .i64)) ?cn ?cp ?cf ?c1 w.heap.size w ?cb ?cB ?_)
    case cg => exact blk_new _ _
    case cn => simp [Nat.min_def]; omega
    case cp =>
      intro hpos
      obtain ⟨ad, hA, hc⟩ := HR2.out.2.2 hpos
      refine ⟨ad, hA, fun j x hx => ?_⟩
      obtain ⟨c, _, hc2, hc3⟩ := hc j x hx
      obtain rfl : c = [Value.int .i64 x] := hc2
      have hw := hc3 0 _ rfl
      rw [show (Kd.int .i64).sz = 1 from rfl, Nat.mul_one, Nat.add_zero] at hw
      exact (World.cell?_alloc_lt _ _ _ (by have := World.block_lt_of_cell? _ _ hw; have := HB2.out.size; omega)).trans ((HB2.out.cell (World.block_lt_of_cell? w _ hw)).trans hw)
    case cf => rw [List.length_map]; simp; omega
    case c1 => intro v hv; obtain ⟨x, _, rfl⟩ := List.mem_map.1 hv; rfl
    case cb => exact below_alloc HB2.out _
    case cB => exact HB2.out.size
    intro w3 hh hb3
    rw [splice3 l2 sl3] at hh
    have BK3 := Aside0.mk hh.out
    have HB3 := Aside0.mk hb3
    have szg := HB2.out.size
    clear hh hb3 HB2
    obtain ⟨gB, hgB⟩ : ∃ g, g = w2.heap.size := ⟨_, rfl⟩
    rw [← hgB] at BK3 szg ⊢
    clear hgB
    go_wp2_with fail
    refine (weigh_marks.calls (n : Int) A1 c1 l1 L _ (Kd.C_below HR1.out HB3.out) HC1.out HMF.out).mono ?_
    rintro e w4 ⟨v, rfl, hO, hb⟩
    obtain ⟨A, c, rfl⟩ := Kd.R_slice hO
    obtain ⟨_, hLc, hC⟩ := Kd.R_reads' hO
    have HL4 := Aside0.mk hC
    have BK4 := Aside0.mk (blk_below BK3.out hb)
    have HB4 := Aside0.mk (HB3.out.trans (hb.mono HB3.out.size))
    clear BK3 HB3 hO hC hb
    go_wp2_with fail
    refine (weigh_cases.calls 20 (n : Int) cs _ HCF.out).mono ?_
    rintro e w5 ⟨v, rfl, hO, hb⟩
    obtain ⟨Ac, cc, rfl⟩ := Kd.R_slice hO
    obtain ⟨_, hcc, hC⟩ := Kd.R_reads' hO
    have HCS := Aside0.mk hC
    have HL5 := Aside0.mk (Kd.C_below HL4.out hb)
    have BK5 := Aside0.mk (blk_below BK4.out hb)
    have HB5 := Aside0.mk (HB4.out.trans (hb.mono HB4.out.size))
    clear BK4 HB4 HL4 hO hC hb
    go_wp2
    go_loopg [12, 39] cs.length (fun gg v12 s wr => ∃ (i : Nat) (xs : List S35), i ≤ cs.length ∧ cs.length - i ≤ gg ∧ s = .int .i64 i ∧ Aside0 (Below w5.heap.size w5 wr) ∧ Aside0 (Kd.R k35 35 wr w5.heap.size (fun _ => True) v12 xs) ∧ Aside0 (xs = (cs.take i).filter (pickB L (of3 l2))))
    case atStart => exact ⟨0, [], Nat.zero_le _, by omega, rfl, ⟨Below.refl _ _⟩, ⟨Kd.R_nil _ _ _ _ _⟩, ⟨by simp⟩⟩
    case round =>
      obtain ⟨i, xs, hi, hg, rfl, BR, HO, AX⟩ := hrel
      by_cases hil : i < cs.length
      · have hilz : (i : Int) < (cs.length : Int) := by omega
        obtain ⟨ad, e1, hx0, hx1⟩ := at_T35 HCS.out i (by omega) hilz
        cases e1
        replace hx0 := (BR.out.cell (World.block_lt_of_cell? w5 _ hx0)).trans hx0
        replace hx1 := (BR.out.cell (World.block_lt_of_cell? w5 _ hx1)).trans hx1
        simp only [Int.toNat_natCast] at hx0 hx1
        rw [show rd_T35 cs (i : Int) = cs.getD i z35 from rfl] at hx0 hx1
        have Bi : Aside0 (cs.take (i + 1) = cs.take i ++ [cs.getD i z35]) := ⟨by rw [List.take_succ_eq_append_getElem hil]; simp [List.getD_eq_getElem?_getD, List.getElem?_eq_getElem hil]⟩
        obtain ⟨m0, m1⟩ := HCM.out _ (mem_getD z35 cs i hil)
        generalize cs.getD i z35 = c0 at *
        obtain ⟨x0, x1⟩ := c0
        dsimp only at hx0 hx1 m0 m1
        obtain ⟨y0, rfl⟩ := Int.eq_ofNat_of_zero_le m0
        rw [Int.toNat_natCast] at m1
        have hicc : (i : Int) ≤ (cc : Int) := by omega
        go_wp2
        obtain ⟨adL, e2, hm0, hm1, hm2⟩ := at_T70 HL5.out (y0 : Int) (by omega) (by omega)
        cases e2
        simp only [Int.toNat_natCast] at hm0 hm1 hm2
        rw [show rd_T70 L (y0 : Int) = L.getD y0 z70 from rfl] at hm0 hm1 hm2
        replace hm0 := (BR.out.cell (World.block_lt_of_cell? w5 _ hm0)).trans hm0
        replace hm1 := (BR.out.cell (World.block_lt_of_cell? w5 _ hm1)).trans hm1
        replace hm2 := (BR.out.cell (World.block_lt_of_cell? w5 _ hm2)).trans hm2
        have BKr := blk_below BK5.out BR.out
        have hg0 := blk_cell BKr 0
        have hg1 := blk_cell BKr 1
        have hg2 := blk_cell BKr 2
        simp only [List.getElem?_toArray, List.getElem?_cons_zero, List.getElem?_cons_succ] at hg0 hg1 hg2
        have hb0 := Below.alloc (Below.refl wr.heap.size wr) (Nat.le_refl _) (.cells #[.int .i64 (y0 : Int), .int .i64 x1] 35)
        replace hm0 := (hb0.cell (World.block_lt_of_cell? wr _ hm0)).trans hm0
        replace hm1 := (hb0.cell (World.block_lt_of_cell? wr _ hm1)).trans hm1
        replace hm2 := (hb0.cell (World.block_lt_of_cell? wr _ hm2)).trans hm2
        replace hg0 := (hb0.cell (World.block_lt_of_cell? wr _ hg0)).trans hg0
        replace hg1 := (hb0.cell (World.block_lt_of_cell? wr _ hg1)).trans hg1
        replace hg2 := (hb0.cell (World.block_lt_of_cell? wr _ hg2)).trans hg2
        have BKc := blk_new wr (.cells #[.int .i64 (y0 : Int), .int .i64 x1] 35)
        have hc0 := blk_cell BKc 0
        have hc1 := blk_cell BKc 1
        simp only [List.getElem?_toArray, List.getElem?_cons_zero, List.getElem?_cons_succ] at hc0 hc1
        obtain ⟨gc, hgc⟩ : ∃ g, g = wr.heap.size := ⟨_, rfl⟩
        have HBa := Aside0.mk hb0
        have BKc' := Aside0.mk BKc
        rw [← hgc] at hc0 hc1 BKc' ⊢
        have HGC := Aside0.mk hgc
        clear hx0 hx1 hgc BKc hb0 BKr
        generalize hwn : wr.alloc (.cells #[.int .i64 (y0 : Int), .int .i64 x1] 35) = wn at *
        clear hwn
        obtain ⟨m, hm⟩ : ∃ m, m = L.getD y0 z70 := ⟨_, rfl⟩
        rw [← hm] at hm0 hm1 hm2
        have HM := Aside0.mk hm
        obtain ⟨t0, ht0⟩ : ∃ z, z = wrap64 (m.f0 * x1) := ⟨_, rfl⟩
        obtain ⟨t1, ht1⟩ : ∃ z, z = wrap64 (m.f1 * x1) := ⟨_, rfl⟩
        obtain ⟨t2, ht2⟩ : ∃ z, z = wrap64 (m.f2 * x1) := ⟨_, rfl⟩
        have HTM := Aside0.mk (show weigh_mark_times.f m.f0 m.f1 m.f2 x1 = some (t0, t1, t2) by rw [ht0, ht1, ht2]; rfl)
        have HPB := Aside0.mk (show pickB L (of3 l2) (⟨(y0 : Int), x1⟩ : S35) = (t0 == (of3 l2).f0 && (t1 == (of3 l2).f1 && t2 == (of3 l2).f2)) by
          unfold pickB tim3 eq3
          dsimp only
          rw [Int.toNat_natCast, ← hm, ht0, ht1, ht2])
        clear ht0 ht1 ht2 hm
        have SK : ∀ W, Below wn.heap.size wn W → (Below wn.heap.size wn W ∧ W.cell? ⟨gc, 0, none⟩ = some (.int .i64 (y0 : Int)) ∧ W.cell? ⟨gc, 1, none⟩ = some (.int .i64 x1) ∧ W.cell? (adL.add (y0 * 3)) = some (.int .i64 m.f0) ∧ W.cell? ⟨(adL.add (y0 * 3)).block, (adL.add (y0 * 3)).off + 1, none⟩ = some (.int .i64 m.f1) ∧ W.cell? ⟨(adL.add (y0 * 3)).block, (adL.add (y0 * 3)).off + 2, none⟩ = some (.int .i64 m.f2) ∧ W.cell? ⟨gB, 0, none⟩ = some (.int .i64 (of3 l2).f0) ∧ W.cell? ⟨gB, 1, none⟩ = some (.int .i64 (of3 l2).f1) ∧ W.cell? ⟨gB, 2, none⟩ = some (.int .i64 (of3 l2).f2)) := fun W hb => ⟨hb, (hb.cell (World.block_lt_of_cell? _ _ hc0)).trans hc0, (hb.cell (World.block_lt_of_cell? _ _ hc1)).trans hc1, (hb.cell (World.block_lt_of_cell? _ _ hm0)).trans hm0, (hb.cell (World.block_lt_of_cell? _ _ hm1)).trans hm1, (hb.cell (World.block_lt_of_cell? _ _ hm2)).trans hm2, (hb.cell (World.block_lt_of_cell? _ _ hg0)).trans hg0, (hb.cell (World.block_lt_of_cell? _ _ hg1)).trans hg1, (hb.cell (World.block_lt_of_cell? _ _ hg2)).trans hg2⟩
        have hS0 := SK _ (below_drew1 (Below.refl _ wn))
        have CT : Aside0 (∀ W, Below wn.heap.size wn W → Calls Try.prog 94 #[.agg #[.int .i64 m.f0, .int .i64 m.f1, .int .i64 m.f2], .int .i64 x1] W fun e w' => e = .returned (.agg #[.int .i64 t0, .int .i64 t1, .int .i64 t2]) ∧ Below W.heap.size W w' ∧ Below wn.heap.size wn w') :=
          ⟨fun W hW => (weigh_mark_times.calls m.f0 m.f1 m.f2 x1 t0 t1 t2 W HTM.out).mono (by rintro e w' ⟨rfl, hb⟩; exact ⟨rfl, hb, hW.trans (hb.mono hW.size)⟩)⟩
        have y0l : ((y0 : Int) < (L.length : Int)) := by omega
        have y0g : (0 : Int) ≤ (y0 : Int) := by omega
        have y0c : ((y0 : Int) ≤ (c : Int)) := by omega
        go_region_held3 (fun W => Below wn.heap.size wn W ∧ W.cell? ⟨gc, 0, none⟩ = some (.int .i64 (y0 : Int)) ∧ W.cell? ⟨gc, 1, none⟩ = some (.int .i64 x1) ∧ W.cell? (adL.add (y0 * 3)) = some (.int .i64 m.f0) ∧ W.cell? ⟨(adL.add (y0 * 3)).block, (adL.add (y0 * 3)).off + 1, none⟩ = some (.int .i64 m.f1) ∧ W.cell? ⟨(adL.add (y0 * 3)).block, (adL.add (y0 * 3)).off + 2, none⟩ = some (.int .i64 m.f2) ∧ W.cell? ⟨gB, 0, none⟩ = some (.int .i64 (of3 l2).f0) ∧ W.cell? ⟨gB, 1, none⟩ = some (.int .i64 (of3 l2).f1) ∧ W.cell? ⟨gB, 2, none⟩ = some (.int .i64 (of3 l2).f2)) ((first | with_reducible assumption | exact hS0 | exact SK _ hBT | fail)) (first | (go_at_call 94; with_reducible refine (CT.out _ ?_).mono ?_; (first | with_reducible assumption | exact hS0.1 | (apply And.left; with_reducible assumption)); rintro e w6 ⟨rfl, hB6, hBT⟩))
        obtain ⟨_, k0, k1, _, _, _, _, _, _⟩ := SK _ hBT
        have HBn := Aside0.mk (BR.out.trans (HBa.out.mono BR.out.size))
        have HB6 := Aside0.mk (HBn.out.trans (hBT.mono HBn.out.size))
        have HO6 := Aside0.mk (Kd.R_below (Kd.R_below HO.out HBa.out) hBT)
        clear hS0 SK CT hBT hB6 HBa
        have s6 := HB6.out.size
        have hxl : xs.length ≤ 26 := by rw [AX.out]; exact Nat.le_trans (List.length_filter_le _ _) (by rw [List.length_take]; omega)
        generalize hE : (t0 == (of3 l2).f0 && (t1 == (of3 l2).f1 && t2 == (of3 l2).f2)) = be at *
        clear hE hg0 hg1 hg2 hm0 hm1 hm2 hc0 hc1
        cases be with
        | true =>
          obtain ⟨Av, cv, rfl⟩ := Kd.R_slice HO6.out
          go_wp2_with (at_builtin; refine Kd.R_append k35 (w0 := w5) w5.heap.size rfl (.tmp 53) (.tmp 55) 71 35 (.agg #[(.int .i64 0), (.int .i64 0)]) 16 rfl Try.underlying71 info35 rfl (by decide) (by omega) (.slice Av xs.length cv) xs (⟨(y0 : Int), x1⟩ : S35) [.int .i64 (y0 : Int), .int .i64 x1] (fun _ => True) (fun _ => False) rfl rfl ?aP ?aK ?aF ?aO ?aB ?aS ?aL ?_)
          case aP => exact k35_mkM _ _ _ (⟨(y0 : Int), x1⟩ : S35)
          case aK => exact fun _ h => h.elim
          case aF => exact fun _ _ => trivial
          case aO => exact HO6.out
          case aB => exact HB6.out
          case aS => exact HB6.out.size
          case aL => omega
          intro v1 w7 hN hB7 _ _
          have HN := Aside0.mk hN
          have HB7 := Aside0.mk hB7
          clear hN hB7
          go_wp2
          go_roundg (cs.length - (i + 1))
          case measure => omega
          case rel =>
            refine ⟨i + 1, _, by omega, by omega, by go_num, HB7, HN, ⟨?_⟩⟩
            rw [Bi.out, List.filter_append, ← AX.out]
            simp [HPB.out]
        | false =>
          go_wp2
          go_roundg (cs.length - (i + 1))
          case measure => omega
          case rel =>
            refine ⟨i + 1, xs, by omega, by omega, by go_num, HB6, HO6, ⟨?_⟩⟩
            rw [Bi.out, List.filter_append, ← AX.out]
            simp [HPB.out]
      · have hilz : ¬ (i : Int) < (cs.length : Int) := by omega
        have hil' : cs.length ≤ i := by omega
        have BKr := blk_below BK5.out BR.out
        have hg0 := blk_cell BKr 0
        have hg1 := blk_cell BKr 1
        have hg2 := blk_cell BKr 2
        simp only [List.getElem?_toArray, List.getElem?_cons_zero, List.getElem?_cons_succ] at hg0 hg1 hg2
        clear BKr
        go_wp2
        go_quiet (fail)
        go_wp2
        go_ret3
        refine ⟨_, by rw [← H2.out]; rfl, ?_, pw_below_drewN (HB5.out.trans (BR.out.mono HB5.out.size)) _⟩
        have hR := Kd.R_drewN (Kd.R_lower HO.out HB5.out.size) nq
        rw [AX.out, List.take_of_length_le hil', H1.out] at hR
        exact hR
end Go.Proofs.Ytdbeochifofdoaa.X
end

section
/-! weigh.FromMarks. -/
namespace Go.Proofs.Ytdbeochifofdoaa.X
open Go.RowKit Go.Proofs.YtdbeochifofdoaaW.PrintWords Go.Proofs.YtdbeochifofdoaaW.PrintLast Go.Proofs.YtdbeochifofdoaaW.PrintMore
set_option linter.unusedVariables false
set_option linter.unusedSimpArgs false

/-- The numbers, from n on, of the marks that have s at k. -/
def sideI (k : Nat) (s : Int) : Nat → List (List Int) → List Int
  | _, [] => []
  | n, m :: q => if m.getD k 0 = s then (n : Int) :: sideI k s (n + 1) q else sideI k s (n + 1) q
theorem sideI_len (k : Nat) (s : Int) : ∀ (l : List (List Int)) (n : Nat), (sideI k s n l).length ≤ l.length
  | [], _ => Nat.le_refl _
  | m :: q, n => by
    have := sideI_len k s q (n + 1)
    unfold sideI
    split
    · simp only [List.length_cons]; omega
    · simp only [List.length_cons]; omega
def lenB (l : List (List Int)) : Bool := l.any fun m => decide (3 < (m.length : Int))
def badRow (l : List (List Int)) (m : List Int) : Bool := (m.length != (l.getD 0 []).length) || sideB m
/-- The weighings from k on, d of them. -/
def fromR (l : List (List Int)) : Nat → Nat → List S53 → List S53 × Int
  | 0, _, out => (out, 0)
  | d + 1, k, out => if (sideI k 1 0 l).length = (sideI k (-1) 0 l).length then fromR l d (k + 1) (out ++ [⟨sideI k 1 0 l, sideI k (-1) 0 l⟩]) else ([], 5)
def weigh_FromMarks.f (l : List (List Int)) : Option (List S53 × Int) :=
  if (decide (1 ≤ (l.length : Int)) && decide ((l.length : Int) ≤ 13)) = true then (if lenB l = true then some ([], 3) else if l.any (badRow l) = true then some ([], 1) else some (fromR l (l.getD 0 []).length 0 [])) else some ([], 3)
theorem eg104 (args : Array Value) (w : World) : (callFunc 104 args).run Try.prog w = .ok (.enter 104 args) w := enters_of Try.func104 (by kernel_rfl) rfl args w
theorem eg105 (args : Array Value) (w : World) : (callFunc 105 args).run Try.prog w = .ok (.enter 105 args) w := enters_of Try.func105 (by kernel_rfl) rfl args w

set_option maxHeartbeats 8000000 in
set_option maxRecDepth 100000 in
theorem weigh_FromMarks.calls (A0 : Option Addr) (c0 : Nat) (L : List (List Int)) (r1 : List S53) (r2 : Int) (w : World) (hr0 : Kd.C (Kd.slice 3 (Kd.int .i64)) w A0 L.length L) (hc0 : L.length ≤ c0) (h : weigh_FromMarks.f L = some (r1, r2)) :
    Calls Try.prog 67 #[.slice A0 L.length c0] w fun e w' => ∃ v0_ : Value, e = .returned (.tuple #[v0_, .int .i64 r2]) ∧ Kd.N k53 53 w' w.heap.size (fun k_ => w.heap.size ≤ k_) v0_ r1 ∧ Below w.heap.size w w' := by
  unfold weigh_FromMarks.f at h
  have HR := Aside0.mk hr0
  have HFW := Aside0.mk (within_f (L.length : Int) 1 13)
  clear hr0
  cases hw : (decide (1 ≤ (L.length : Int)) && decide ((L.length : Int) ≤ 13)) with
  | false =>
    rw [hw] at h HFW
    rw [if_neg (by simp)] at h
    simp only [Option.some.injEq, Prod.mk.injEq] at h
    obtain ⟨rfl, rfl⟩ := h
    clear hw
    go_enter Try.func67, Try.ntmps67
    go_wp2_with (go_at_call 85; refine (weigh_within.calls (L.length : Int) 1 13 false _ HFW.out).mono ?_; rintro e w' ⟨rfl, ⟨nd, rfl⟩⟩)
    go_ret2
    exact ⟨_, rfl, Kd.N_nil _ _ _ _ _, pw_below_drewN (Below.refl _ _) _⟩
  | true =>
  rw [hw] at h HFW
  rw [if_pos rfl] at h
  have hl13 : 1 ≤ L.length ∧ L.length ≤ 13 := by simp at hw; omega
  clear hw
  go_enter Try.func67, Try.ntmps67
  go_wp2_with (go_at_call 85; refine (weigh_within.calls (L.length : Int) 1 13 true _ HFW.out).mono ?_; rintro e w' ⟨rfl, ⟨nd, rfl⟩⟩)
  refine (containsFunc103 104 #[] eg104 (fun m => decide (3 < (m.length : Int))) A0 c0 L _ ?hr ?hp).mono ?_
  case hr => exact Kd.C_below HR.out (pw_below_drewN (Below.refl _ _) _)
  case hp =>
    intro W x A c _ hCx _ _
    exact lit104 A x.length c W (Kd.C_max hCx)
  rintro e w1 ⟨rfl, hb1⟩
  have HB1 := Aside0.mk ((pw_below_drewN (Below.refl _ w) nd).trans hb1)
  clear hb1
  rw [show (L.any fun m => decide (3 < (m.length : Int))) = lenB L from rfl]
  cases hlb : lenB L with
  | true =>
    rw [hlb, if_pos rfl] at h
    simp only [Option.some.injEq, Prod.mk.injEq] at h
    obtain ⟨rfl, rfl⟩ := h
    go_wp2
    go_ret2
    exact ⟨_, rfl, Kd.N_nil _ _ _ _ _, HB1.out⟩
  | false =>
  rw [hlb, if_neg (by simp)] at h
  have HL3 : Aside0 (∀ m, m ∈ L → m.length ≤ 3) := ⟨fun m hm => by
    unfold lenB at hlb
    have := List.any_eq_false.1 hlb m hm
    simp at this
    omega⟩
  have H0 := Aside0.mk h
  clear hlb h
  have h0l : (0 : Int) < (L.length : Int) := by omega
  have h0c : (0 : Int) ≤ (c0 : Int) := by omega
  obtain ⟨ad0, Am0, cm0, e0, hz0, _, hCz0⟩ := at_L5 HR.out 0 (by omega) (by omega)
  cases e0
  simp only [Int.toNat_zero] at hz0
  rw [show ad0.add 0 = ad0 from by simp [Addr.add]] at hz0
  rw [show rd_L5 L 0 = L.getD 0 [] from rfl] at hz0 hCz0
  obtain ⟨n, hn⟩ : ∃ n, n = (L.getD 0 []).length := ⟨_, rfl⟩
  rw [← hn] at hz0
  have HN0 := Aside0.mk hn
  clear hn
  have hz := hz0
  replace hz := (HB1.out.cell (World.block_lt_of_cell? w _ hz)).trans hz
  go_wp2
  go_loopg [21] L.length (fun gg s wr => ∃ i : Nat, i ≤ L.length ∧ L.length - i ≤ gg ∧ s = .int .i64 i ∧ Aside0 (Below w1.heap.size w1 wr) ∧ Aside0 ((L.drop i).any (badRow L) = L.any (badRow L)))
  case atStart => exact ⟨0, Nat.zero_le _, by omega, rfl, ⟨Below.refl _ _⟩, ⟨by simp⟩⟩
  case round =>
    obtain ⟨i, hi, hg, rfl, BR, AX⟩ := hrel
    have HBr := Aside0.mk (HB1.out.trans (BR.out.mono HB1.out.size))
    replace hz := (HBr.out.cell (World.block_lt_of_cell? w _ hz0)).trans hz0
    by_cases hil : i < L.length
    · have hilz : (i : Int) < (L.length : Int) := by omega
      have hicz : (i : Int) ≤ (c0 : Int) := by omega
      obtain ⟨ad, Am, cm, e1, hx0, hlm, hCm⟩ := at_L5 HR.out i (by omega) hilz
      cases e1
      replace hx0 := (HBr.out.cell (World.block_lt_of_cell? w _ hx0)).trans hx0
      simp only [Int.toNat_natCast] at hx0
      rw [show rd_L5 L (i : Int) = L.getD i [] from rfl] at hx0 hlm hCm
      have Bi : Aside0 ((L.drop i).any (badRow L) = (badRow L (L.getD i []) || (L.drop (i + 1)).any (badRow L))) := ⟨by rw [dropD ([] : List Int) L i hil, List.any_cons]⟩
      generalize L.getD i [] = m at *
      have HCm := Aside0.mk (Kd.C_below hCm HBr.out)
      have HBRow := Aside0.mk (show badRow L m = ((m.length != n) || sideB m) by unfold badRow; rw [HN0.out])
      clear hCm hz0
      by_cases hme : m.length = n
      rotate_left
      · have q1 : ((m.length : Int) != (n : Int)) = true := bne_iff_ne.mpr (by omega)
        have h := H0.out
        have hb : badRow L m = true := by rw [HBRow.out]; simp [hme]
        rw [← AX.out, Bi.out, hb, Bool.true_or, if_pos rfl] at h
        simp only [Option.some.injEq, Prod.mk.injEq] at h
        obtain ⟨rfl, rfl⟩ := h
        clear hme
        go_wp2
        go_ret2
        exact ⟨_, rfl, Kd.N_nil _ _ _ _ _, HBr.out⟩
      have q1 : ((m.length : Int) != (n : Int)) = false := bne_eq_false_iff_eq.mpr (by omega)
      have HME := Aside0.mk hme
      clear hme
      go_wp2_with fail
      refine (containsFunc97 105 #[] eg105 (fun x => !(decide (-1 ≤ x) && decide (x ≤ 1))) Am cm m _ ?hr ?hp).mono ?_
      case hr => exact HCm.out
      case hp =>
        intro W x _ hbW
        exact lit105 x W
      rintro e w2 ⟨rfl, hb2⟩
      have HB2 := Aside0.mk (BR.out.trans (hb2.mono BR.out.size))
      clear hb2
      rw [show (m.any fun x => !(decide (-1 ≤ x) && decide (x ≤ 1))) = sideB m from rfl]
      cases hs : sideB m with
      | true =>
        have h := H0.out
        have hb : badRow L m = true := by rw [HBRow.out, hs]; simp
        rw [← AX.out, Bi.out, hb, Bool.true_or, if_pos rfl] at h
        simp only [Option.some.injEq, Prod.mk.injEq] at h
        obtain ⟨rfl, rfl⟩ := h
        go_wp2
        go_ret2
        exact ⟨_, rfl, Kd.N_nil _ _ _ _ _, HB1.out.trans (HB2.out.mono HB1.out.size)⟩
      | false =>
        have hb : badRow L m = false := by rw [HBRow.out, hs, HME.out]; simp
        go_wp2
        go_roundg (L.length - (i + 1))
        case measure => omega
        case rel => exact ⟨i + 1, by omega, by omega, by go_num, HB2, ⟨by rw [← AX.out, Bi.out, hb, Bool.false_or]⟩⟩
    · have hilz : ¬ (i : Int) < (L.length : Int) := by omega
      have hil' : L.length ≤ i := by omega
      have hno : L.any (badRow L) = false := by rw [← AX.out, List.drop_eq_nil_of_le hil']; rfl
      have h := H0.out
      rw [hno, if_neg (by simp), ← HN0.out] at h
      have H1 := Aside0.mk (Option.some.inj h)
      have HQ : Aside0 (∀ m, m ∈ L → m.length = n) := ⟨fun m hm => by
        have := List.any_eq_false.1 hno m hm
        unfold badRow at this
        rw [← HN0.out] at this
        simp at this
        exact this.1⟩
      have hn3 : n ≤ 3 := by
        rw [HN0.out]
        exact HL3.out _ (mem_getD ([] : List Int) L 0 (by omega))
      have HL := Aside0.mk (Kd.C_below HR.out HBr.out)
      clear h H0 AX hno hCz0
      obtain ⟨w2, rfl⟩ : ∃ q : World, q = wr := ⟨_, rfl⟩
      have HB2 := HBr
      go_wp2
      go_loopg [6, 41] n (fun gg v6 s wr => ∃ (k : Nat) (out : List S53), k ≤ n ∧ out.length ≤ k ∧ n - k ≤ gg ∧ s = .int .i64 k ∧ Aside0 (Below w2.heap.size w2 wr) ∧ Aside0 (Kd.N k53 53 wr w2.heap.size (fun k_ => w2.heap.size ≤ k_) v6 out) ∧ Aside0 (fromR L (n - k) k out = fromR L n 0 []))
      case atStart => exact ⟨0, [], Nat.zero_le _, Nat.le_refl _, by omega, rfl, ⟨Below.refl _ _⟩, ⟨Kd.N_nil _ _ _ _ _⟩, ⟨rfl⟩⟩
      case round =>
        obtain ⟨k, out, hk, hol, hg, rfl, BR, HO, AX⟩ := hrel
        by_cases hkn : k < n
        · have hknz : (k : Int) < (n : Int) := by omega
          have hk3 : k < 3 := by omega
          obtain ⟨wo, rfl⟩ : ∃ q : World, q = wr := ⟨_, rfl⟩
          obtain ⟨go, rfl⟩ : ∃ q : Nat, q = gk := ⟨_, rfl⟩
          go_wp2
          have HMS : Aside0 (MkS wo wo.heap.size (wo.alloc (.cells #[.slice none 0 0, .slice none 0 0] 53)) (.slice none 0 0) (.slice none 0 0) [] []) :=
            ⟨⟨blk_new _ _, Kd.R_nil _ _ _ _ _, Kd.R_nil _ _ _ _ _, (Below.refl _ _).alloc (Nat.le_refl _) _, by simp, Nat.le_refl _⟩⟩
          obtain ⟨g, hg'⟩ : ∃ g, g = wo.heap.size := ⟨_, rfl⟩
          have HGW := Aside0.mk hg'
          rw [← hg'] at HMS ⊢
          clear hg'
          go_loopg [46] L.length (fun gg s wi => ∃ (i : Nat) (vL vR : Value) (xs ys : List Int), i ≤ L.length ∧ L.length - i ≤ gg ∧ s = .int .i64 i ∧ Aside0 (MkS wo g wi vL vR xs ys) ∧ Aside0 (xs ++ sideI k 1 i (L.drop i) = sideI k 1 0 L) ∧ Aside0 (ys ++ sideI k (-1) i (L.drop i) = sideI k (-1) 0 L))
          case atStart => exact ⟨0, _, _, [], [], Nat.zero_le _, by omega, rfl, HMS, ⟨rfl⟩, ⟨rfl⟩⟩
          case round =>
            obtain ⟨i, vL, vR, xs, ys, hi, hgi, rfl, HM, EL, ER⟩ := hrel
            by_cases hil : i < L.length
            · have hilz : (i : Int) < (L.length : Int) := by omega
              obtain ⟨ad, Am, cm, e1, hx0, hlm, hCm⟩ := at_L5 HL.out i (by omega) hilz
              cases e1
              have BI := Aside0.mk (BR.out.trans (HM.out.2.2.2.1.mono BR.out.size))
              replace hx0 := (BI.out.cell (World.block_lt_of_cell? w2 _ hx0)).trans hx0
              simp only [Int.toNat_natCast] at hx0
              rw [show rd_L5 L (i : Int) = L.getD i [] from rfl] at hx0 hlm hCm
              have hml := HQ.out _ (mem_getD ([] : List Int) L i hil)
              have SL : Aside0 (sideI k 1 i (L.drop i) = if (L.getD i []).getD k 0 = 1 then (i : Int) :: sideI k 1 (i + 1) (L.drop (i + 1)) else sideI k 1 (i + 1) (L.drop (i + 1))) := ⟨by rw [dropD ([] : List Int) L i hil]; rfl⟩
              have SR : Aside0 (sideI k (-1) i (L.drop i) = if (L.getD i []).getD k 0 = -1 then (i : Int) :: sideI k (-1) (i + 1) (L.drop (i + 1)) else sideI k (-1) (i + 1) (L.drop (i + 1))) := ⟨by rw [dropD ([] : List Int) L i hil]; rfl⟩
              have HLX : Aside0 (0 = 0 ∧ xs.length ≤ 13 ∧ ys.length ≤ 13) := by
                refine ⟨rfl, ?_, ?_⟩
                · have h := congrArg List.length EL.out
                  rw [List.length_append] at h
                  have := sideI_len k 1 L 0
                  omega
                · have h := congrArg List.length ER.out
                  rw [List.length_append] at h
                  have := sideI_len k (-1) L 0
                  omega
              generalize L.getD i [] = m at *
              obtain ⟨adm, e2, hq⟩ := Kd.at_int hCm (k : Int) (by omega) (by omega)
              cases e2
              replace hq := (BI.out.cell (World.block_lt_of_cell? w2 _ hq)).trans hq
              rw [show rd m (k : Int) = m.getD k 0 from rfl] at hq
              simp only [Int.toNat_natCast] at hq
              have hkm : (k : Int) < (m.length : Int) := by omega
              have hkc : (k : Int) ≤ (cm : Int) := by omega
              have HM1 := HM
              obtain ⟨W1, rfl⟩ : ∃ q : World, q = wr := ⟨_, rfl⟩
              clear HM
              obtain ⟨x, hx⟩ : ∃ x, x = m.getD k 0 := ⟨_, rfl⟩
              rw [← hx] at hq SL SR
              clear hx hCm BI
              by_cases hx : x = 1
              · skip
                have EL2 : Aside0 ((xs ++ [(i : Int)]) ++ sideI k 1 (i + 1) (L.drop (i + 1)) = sideI k 1 0 L) := ⟨by rw [← EL.out, SL.out, if_pos hx]; simp⟩
                have ER2 : Aside0 (ys ++ sideI k (-1) (i + 1) (L.drop (i + 1)) = sideI k (-1) 0 L) := ⟨by rw [← ER.out, SR.out, if_neg (by rw [hx]; decide)]⟩
                clear EL ER SL SR
                have q0 : W1.cell? ⟨g, 0, none⟩ = some vL := (blk_cell HM1.out.1 0)
                have hlx := HLX.out.2.1
                subst hx
                go_wp2_with (first | (at_builtin; refine Kd.R_append (Kd.int .i64) (w0 := wo) wo.heap.size rfl (.tmp 58) (.tmp 60) 43 3 (.int .i64 0) 8 rfl Try.underlying43 info3 rfl (by decide) (by omega) vL xs (i : Int) [.int .i64 (i : Int)] (fun q => q ≠ g ∧ some q ≠ vR.ownBlock) (fun _ => False) rfl rfl ?aP (fun _ h => h.elim) ?aF HM1.out.2.1 HM1.out.2.2.2.1 HM1.out.2.2.2.1.size ?aL ?_))
                case aP => exact rfl
                case aF =>
                  intro q hq
                  have h5 := HM1.out.2.2.2.2.1
                  refine ⟨by omega, fun he => ?_⟩
                  have := (Kd.R_bound HM1.out.2.2.1).1 q he.symm
                  omega
                case aL => omega
                intro v1 w3 hR3 hB3 hG3 hat3
                obtain ⟨zs, hzs⟩ : ∃ z, z = xs ++ [(i : Int)] := ⟨_, rfl⟩
                rw [← hzs] at hR3 EL2
                clear hzs
                obtain ⟨A1, c1, rfl⟩ := Kd.R_slice hR3
                have hX3 := blk_grown HM1.out.1 hG3 (Kd.R_away HM1.out.2.1 (fun q hq => hq.1))
                have HN := Aside0.mk (MkS.left HM1.out hR3 hB3 hG3 hat3)
                have c3 : w3.cell? ⟨g, 0, none⟩ = some vL := blk_cell hX3 0
                have f3 : w3.frozen? ⟨g, 0, none⟩ = false := blk_frozen hX3 0
                clear hX3 hR3 hB3 hG3 hat3 HM1 q0
                go_wp2
                go_roundg (L.length - (i + 1))
                case measure => omega
                case rel => exact ⟨i + 1, _, vR, _, ys, by omega, by omega, by go_num, HN, EL2, ER2⟩
              by_cases hx : x = -1
              · skip
                have EL2 : Aside0 (xs ++ sideI k 1 (i + 1) (L.drop (i + 1)) = sideI k 1 0 L) := ⟨by rw [← EL.out, SL.out, if_neg (by rw [hx]; decide)]⟩
                have ER2 : Aside0 ((ys ++ [(i : Int)]) ++ sideI k (-1) (i + 1) (L.drop (i + 1)) = sideI k (-1) 0 L) := ⟨by rw [← ER.out, SR.out, if_pos hx]; simp⟩
                clear EL ER SL SR
                have q0 : W1.cell? ⟨g, 1, none⟩ = some vR := (blk_cell HM1.out.1 1)
                have hlx := HLX.out.2.2
                subst hx
                go_wp2_with (first | (at_builtin; refine Kd.R_append (Kd.int .i64) (w0 := wo) wo.heap.size rfl (.tmp 66) (.tmp 68) 43 3 (.int .i64 0) 8 rfl Try.underlying43 info3 rfl (by decide) (by omega) vR ys (i : Int) [.int .i64 (i : Int)] (fun q => q ≠ g ∧ some q ≠ vL.ownBlock) (fun _ => False) rfl rfl ?aP (fun _ h => h.elim) ?aF HM1.out.2.2.1 HM1.out.2.2.2.1 HM1.out.2.2.2.1.size ?aL ?_))
                case aP => exact rfl
                case aF =>
                  intro q hq
                  have h5 := HM1.out.2.2.2.2.1
                  refine ⟨by omega, fun he => ?_⟩
                  have := (Kd.R_bound HM1.out.2.1).1 q he.symm
                  omega
                case aL => omega
                intro v1 w3 hR3 hB3 hG3 hat3
                obtain ⟨zs, hzs⟩ : ∃ z, z = ys ++ [(i : Int)] := ⟨_, rfl⟩
                rw [← hzs] at hR3 ER2
                clear hzs
                obtain ⟨A1, c1, rfl⟩ := Kd.R_slice hR3
                have hX3 := blk_grown HM1.out.1 hG3 (Kd.R_away HM1.out.2.2.1 (fun q hq => hq.1))
                have HN := Aside0.mk (MkS.right HM1.out hR3 hB3 hG3 hat3)
                have c3 : w3.cell? ⟨g, 1, none⟩ = some vR := blk_cell hX3 1
                have f3 : w3.frozen? ⟨g, 1, none⟩ = false := blk_frozen hX3 1
                clear hX3 hR3 hB3 hG3 hat3 HM1 q0
                go_wp2
                go_roundg (L.length - (i + 1))
                case measure => omega
                case rel => exact ⟨i + 1, vL, _, xs, _, by omega, by omega, by go_num, HN, EL2, ER2⟩
              have EL2 : Aside0 (xs ++ sideI k 1 (i + 1) (L.drop (i + 1)) = sideI k 1 0 L) := ⟨by rw [← EL.out, SL.out, if_neg (by assumption)]⟩
              have ER2 : Aside0 (ys ++ sideI k (-1) (i + 1) (L.drop (i + 1)) = sideI k (-1) 0 L) := ⟨by rw [← ER.out, SR.out, if_neg hx]⟩
              clear EL ER SL SR
              go_wp2
              go_roundg (L.length - (i + 1))
              case measure => omega
              case rel => exact ⟨i + 1, vL, vR, xs, ys, by omega, by omega, by go_num, HM1, EL2, ER2⟩
            · have hilz : ¬ (i : Int) < (L.length : Int) := by omega
              obtain rfl : i = L.length := by omega
              obtain ⟨AL, cL, rfl⟩ := Kd.R_slice HM.out.2.1
              obtain ⟨AR, cR, rfl⟩ := Kd.R_slice HM.out.2.2.1
              obtain ⟨Av, cv, rfl⟩ := Kd.N_slice HO.out
              have c0 : wr.cell? ⟨g, 0, none⟩ = some (.slice AL xs.length cL) := blk_cell HM.out.1 0
              have c1 : wr.cell? ⟨g, 1, none⟩ = some (.slice AR ys.length cR) := blk_cell HM.out.1 1
              have hxe := Aside0.mk (show xs = sideI k 1 0 L by rw [← EL.out, List.drop_length]; simp [sideI])
              have hye := Aside0.mk (show ys = sideI k (-1) 0 L by rw [← ER.out, List.drop_length]; simp [sideI])
              have HXY := Aside0.mk (show fromR L (n - k) k out = if xs.length = ys.length then fromR L (n - (k + 1)) (k + 1) (out ++ [⟨xs, ys⟩]) else ([], 5) by
                rw [show n - k = (n - (k + 1)) + 1 by omega, fromR, ← hxe.out, ← hye.out])
              by_cases hxy : xs.length = ys.length
              rotate_left
              · have q1 : ((xs.length : Int) != (ys.length : Int)) = true := bne_iff_ne.mpr (by omega)
                have h := AX.out
                rw [HXY.out, if_neg hxy, H1.out] at h
                simp only [Prod.mk.injEq] at h
                obtain ⟨rfl, rfl⟩ := h
                clear hxy
                go_wp2
                go_ret2
                exact ⟨_, rfl, Kd.N_nil _ _ _ _ _, HB2.out.trans ((BR.out.trans (HM.out.2.2.2.1.mono BR.out.size)).mono HB2.out.size)⟩
              have q1 : ((xs.length : Int) != (ys.length : Int)) = false := bne_eq_false_iff_eq.mpr (by omega)
              have AX2 := Aside0.mk (show fromR L (n - (k + 1)) (k + 1) (out ++ [⟨xs, ys⟩]) = fromR L n 0 [] by rw [← AX.out, HXY.out, if_pos hxy])
              clear hxy
              go_wp2_with (first | (at_builtin; refine Kd.N_append k53 (w0 := w2) w2.heap.size rfl (.tmp 79) (.tmp 81) 22 53 (.agg #[(.slice none 0 0), (.slice none 0 0)]) 48 rfl Try.underlying22 info53 rfl (by decide) (by omega) (.slice Av out.length cv) out (⟨xs, ys⟩ : S53) [.slice AL xs.length cL, .slice AR ys.length cR] (fun k_ => w2.heap.size ≤ k_) (fun k_ => some k_ = (.slice AL xs.length cL : Value).ownBlock ∨ some k_ = (.slice AR ys.length cR : Value).ownBlock) rfl rfl ?aP ?aK ?aF ?aO ?aB ?aS ?aL ?_))
              case aP => exact Kd.FK_of_M (k53_mkM _ wo.heap.size _ (⟨xs, ys⟩ : S53) (Kd.R_mono (Kd.R_tight rfl HM.out.2.1) (fun _ h => Or.inl h)) (Kd.R_mono (Kd.R_tight rfl HM.out.2.2.1) (fun _ h => Or.inr h)))
              case aK =>
                intro q hq
                have h1 : wo.heap.size ≤ q := by
                  rcases hq with h | h
                  · exact Kd.R_base HM.out.2.1 q h.symm
                  · exact Kd.R_base HM.out.2.2.1 q h.symm
                refine ⟨by have := BR.out.size; omega, fun he => ?_⟩
                have h2 := Kd.N_lt HO.out q he.symm
                omega
              case aF => intro q hq; have h1 := BR.out.size; have h2 := HM.out.2.2.2.1.size; omega
              case aO => exact Kd.N_below HO.out HM.out.2.2.2.1
              case aB => exact BR.out.trans (HM.out.2.2.2.1.mono BR.out.size)
              case aS => have h1 := BR.out.size; have h2 := HM.out.2.2.2.1.size; omega
              case aL => omega
              intro v1 w3 hN hB3 _ _
              have HN := Aside0.mk hN
              have HB3 := Aside0.mk hB3
              clear hN hB3
              go_wp2
              go_roundg (n - (k + 1))
              case measure => omega
              case rel =>
                exact ⟨k + 1, _, by omega, by simp; omega, by omega, by go_num, HB3, HN, AX2⟩
        · have hknz : ¬ (k : Int) < (n : Int) := by omega
          obtain rfl : k = n := by omega
          go_wp2
          go_ret2
          have e := AX.out
          rw [Nat.sub_self, fromR, H1.out] at e
          simp only [Prod.mk.injEq] at e
          obtain ⟨rfl, rfl⟩ := e
          refine ⟨_, rfl, ?_, HB2.out.trans (BR.out.mono HB2.out.size)⟩
          exact Kd.N_mono (ok' := fun k_ => w.heap.size ≤ k_) (Kd.N_lower HO.out HB2.out.size) (fun k hk => Nat.le_trans HB2.out.size hk)
end Go.Proofs.Ytdbeochifofdoaa.X
end

section
-- Written by a program of this session (wip/hook.py, which runs the kit's print.py with contracts proved by hand). Not trusted: Lean checks it.
namespace Go.Proofs.Ytdbeochifofdoaa.X
open Go.RowKit Go.Proofs.YtdbeochifofdoaaW.PrintWords Go.Proofs.YtdbeochifofdoaaW.PrintLast Go.Proofs.YtdbeochifofdoaaW.PrintMore
attribute [local go_sem] max2_int min2_int max_two min_two max_three min_three max_four min_four   -- for this text's walks alone
set_option linter.unusedVariables false
set_option linter.unusedSimpArgs false

/-! ### verditerlaw06_weighMarks: function 36 -/
def verditerlaw06_weighMarks.j0 : Nat → List (S53) → List (List Int) → Int → Bool → Option (Bool)
  | 0, _, _, _, _ => none
  | k + 1, x1, x7, x8, x34 => if x34 = true then (some false) else (if x8 = 0 then ((weigh_FromMarks.f x7).bind fun bt518 => (if bt518.2 = 0 then ((verditerref06_Same.f k bt518.1 x1).bind fun t522 => (if t522 = true then ((verditerlaw06_known.f k).bind fun t523 => (some t523)) else (some false))) else (some false))) else ((verditerlaw06_known.f k).bind fun t524 => (some t524)))
def verditerlaw06_weighMarks.f (k : Nat) (a0 : Int) (l1 : List (S53)) : Option (Bool) := (verditerlaw06_Long.f k l1).bind fun t507 => (if t507 = true then ((verditerlaw06_known.f k).bind fun t508 => (some t508)) else ((verditerref06_Marks.f k a0 l1).bind fun bt509 => ((weigh_Marks.f a0 l1).bind fun bt513 => (if bt513.2 = bt509.2 then ((verditerref06_SameLists.f k bt513.1 bt509.1).bind fun t517 => (verditerlaw06_weighMarks.j0 k l1 bt513.1 bt513.2 (!t517))) else (verditerlaw06_weighMarks.j0 k l1 bt513.1 bt513.2 true)))))
theorem verditerlaw06_weighMarks.mono_l : ∀ k, (∀ y0 y1 y2 y3, LeO (verditerlaw06_weighMarks.j0 k y0 y1 y2 y3) (verditerlaw06_weighMarks.j0 (k + 1) y0 y1 y2 y3))
  | 0 => fun _ _ _ _ r h => by simp [verditerlaw06_weighMarks.j0] at h
  | k + 1 => by
    have ih0 := verditerlaw06_weighMarks.mono_l k
    · intro y0 y1 y2 y3
      unfold verditerlaw06_weighMarks.j0
      repeat' first
      | (with_reducible exact ih0 _ _ _ _)
      | (with_reducible exact verditerlaw06_Long.mono _ _)
      | (with_reducible exact verditerlaw06_known.mono _)
      | (with_reducible exact verditerref06_Marks.mono _ _ _)
      | (with_reducible exact verditerref06_Same.mono _ _ _)
      | (with_reducible exact verditerref06_SameLists.mono _ _ _)
      | (with_reducible exact LeO.refl _)
      | (with_reducible exact LeO.none _)
      | (with_reducible refine LeO.ite ?_ ?_)
      | (with_reducible refine LeO.bind ?_ (fun _ => ?_))
      | exact ih0 _ _ _ _
      | exact verditerlaw06_Long.mono _ _
      | exact verditerlaw06_known.mono _
      | exact verditerref06_Marks.mono _ _ _
      | exact verditerref06_Same.mono _ _ _
      | exact verditerref06_SameLists.mono _ _ _
      | exact LeO.none _
      | refine LeO.ite ?_ ?_
      | refine LeO.bind ?_ (fun _ => ?_)
theorem verditerlaw06_weighMarks.mono : ∀ a0 a1 k, LeO (verditerlaw06_weighMarks.f k a0 a1) (verditerlaw06_weighMarks.f (k + 1) a0 a1) := by
  intro a0 a1 k
  have ih0 := verditerlaw06_weighMarks.mono_l k
  unfold verditerlaw06_weighMarks.f
  repeat' first
      | (with_reducible exact ih0 _ _ _ _)
      | (with_reducible exact verditerlaw06_Long.mono _ _)
      | (with_reducible exact verditerlaw06_known.mono _)
      | (with_reducible exact verditerref06_Marks.mono _ _ _)
      | (with_reducible exact verditerref06_Same.mono _ _ _)
      | (with_reducible exact verditerref06_SameLists.mono _ _ _)
      | (with_reducible exact LeO.refl _)
      | (with_reducible exact LeO.none _)
      | (with_reducible refine LeO.ite ?_ ?_)
      | (with_reducible refine LeO.bind ?_ (fun _ => ?_))
      | exact ih0 _ _ _ _
      | exact verditerlaw06_Long.mono _ _
      | exact verditerlaw06_known.mono _
      | exact verditerref06_Marks.mono _ _ _
      | exact verditerref06_Same.mono _ _ _
      | exact verditerref06_SameLists.mono _ _ _
      | exact LeO.none _
      | refine LeO.ite ?_ ?_
      | refine LeO.bind ?_ (fun _ => ?_)
set_option maxHeartbeats 8000000 in
set_option maxRecDepth 100000 in
theorem verditerlaw06_weighMarks.calls (k : Nat) (a0 : Int) (A1 : Option Addr) (c1 : Nat) (l1 : List (S53)) (r : Bool) (w : World) (hr1 : Kd.C k53 w A1 l1.length l1) (hc1 : l1.length ≤ c1) (h : verditerlaw06_weighMarks.f k a0 l1 = some r) :
    Calls Try.prog 36 #[.int .i64 a0, .slice A1 l1.length c1] w fun e w' => e = .returned (.bool r) ∧ Below w.heap.size w w' := by
  have HR1 := Aside0.mk hr1
  have HC1 := Aside0.mk hc1
  clear hr1 hc1
  have HB := Aside0.mk (Below.refl w.heap.size w)
  have H : ((verditerlaw06_Long.f k l1).bind fun t507 => (if t507 = true then ((verditerlaw06_known.f k).bind fun t508 => (some t508)) else ((verditerref06_Marks.f k a0 l1).bind fun bt509 => ((weigh_Marks.f a0 l1).bind fun bt513 => (if bt513.2 = bt509.2 then ((verditerref06_SameLists.f k bt513.1 bt509.1).bind fun t517 => (verditerlaw06_weighMarks.j0 k l1 bt513.1 bt513.2 (!t517))) else (verditerlaw06_weighMarks.j0 k l1 bt513.1 bt513.2 true)))))) = some r := h
  clear h
  replace H := Option.bind_eq_some_iff.mp H
  obtain ⟨t507, A30, H⟩ := H
  replace H : (if t507 = true then ((verditerlaw06_known.f k).bind fun t508 => (some t508)) else ((verditerref06_Marks.f k a0 l1).bind fun bt509 => ((weigh_Marks.f a0 l1).bind fun bt513 => (if bt513.2 = bt509.2 then ((verditerref06_SameLists.f k bt513.1 bt509.1).bind fun t517 => (verditerlaw06_weighMarks.j0 k l1 bt513.1 bt513.2 (!t517))) else (verditerlaw06_weighMarks.j0 k l1 bt513.1 bt513.2 true))))) = some r := H
  have A3 := Aside0.mk A30
  clear A30
  by_cases c4 : t507 = true
  · subst c4
    have H1 : ((verditerlaw06_known.f k).bind fun t508 => (some t508)) = some r := by rw [if_pos rfl] at H; exact H
    clear H
    have H := H1
    clear H1
    replace H := Option.bind_eq_some_iff.mp H
    obtain ⟨t508, A50, H⟩ := H
    replace H : (some t508) = some r := H
    have A5 := Aside0.mk A50
    clear A50
    obtain rfl := Option.some.inj H
    go_enter Try.func36, Try.ntmps36
    go_wp2_with (first | ((with_reducible refine gate_callee (f := 43) rfl ?_); refine goesL_ (some 12) rfl rfl Try.func43 (by kernel_rfl) rfl #[.slice A1 l1.length c1] rfl (by (try simp only [List.map_toArray, List.map_cons, List.map_nil]); first | done | rfl | (simp only [List.length_drop, List.length_take]; rfl)) ?_; (with_reducible refine (verditerlaw06_Long.calls k _ _ l1 true _ ?side1 ?side2 A3.out).mono ?_); (case side1 => repeat (first | exact HR1.out | (with_reducible refine Kd.C_alloc ?_ _) | (with_reducible refine Kd.C_drewN ?_ _) | (with_reducible refine Kd.C_drew ?_))); (case side2 => exact HC1.out); rintro e w' ⟨rfl, ⟨nd, rfl⟩⟩; refine ⟨_, rfl, ?_⟩) | ((with_reducible refine gate_callee (f := 25) rfl ?_); refine goesL_ (some 13) rfl rfl Try.func25 (by kernel_rfl) rfl #[] rfl (by (try simp only [List.map_toArray, List.map_cons, List.map_nil]); first | done | rfl | (simp only [List.length_drop, List.length_take]; rfl)) ?_; (with_reducible refine (verditerlaw06_known.calls k  t508 _ A5.out).mono ?_); rintro e w6 ⟨rfl, hb⟩; refine ⟨_, rfl, ?_⟩; have n0_ := Aside0.mk (below_step (by repeat (first | (with_reducible first | exact HB.out | apply below_alloc | apply pw_below_drewN | apply below_drew1) | exact HB.out)) hb); clear HB; have HB := n0_; clear n0_; (try clear hb); (try clear hb2); (try clear hk); (try clear hi)))
    go_ret
    exact ⟨by first | rfl | (simp [errW_none, errW_some] <;> rfl) | (simp [*, errW_none, errW_some] <;> rfl), by repeat (first | (with_reducible first | exact HB.out | apply below_alloc | apply pw_below_drewN | apply below_drew1) | exact HB.out)⟩
  · replace c4 := Bool.eq_false_iff.mpr c4
    subst c4
    have H1 : ((verditerref06_Marks.f k a0 l1).bind fun bt509 => ((weigh_Marks.f a0 l1).bind fun bt513 => (if bt513.2 = bt509.2 then ((verditerref06_SameLists.f k bt513.1 bt509.1).bind fun t517 => (verditerlaw06_weighMarks.j0 k l1 bt513.1 bt513.2 (!t517))) else (verditerlaw06_weighMarks.j0 k l1 bt513.1 bt513.2 true)))) = some r := by rw [if_neg (show ¬ (false = true) by decide)] at H; exact H
    clear H
    have H := H1
    clear H1
    replace H := Option.bind_eq_some_iff.mp H
    obtain ⟨⟨t509, t510⟩, A70, H⟩ := H
    replace H : ((weigh_Marks.f a0 l1).bind fun bt513 => (if bt513.2 = t510 then ((verditerref06_SameLists.f k bt513.1 t509).bind fun t517 => (verditerlaw06_weighMarks.j0 k l1 bt513.1 bt513.2 (!t517))) else (verditerlaw06_weighMarks.j0 k l1 bt513.1 bt513.2 true))) = some r := H
    have A7 := Aside0.mk A70
    clear A70
    replace H := Option.bind_eq_some_iff.mp H
    obtain ⟨⟨t513, t516⟩, A80, H⟩ := H
    replace H : (if t516 = t510 then ((verditerref06_SameLists.f k t513 t509).bind fun t517 => (verditerlaw06_weighMarks.j0 k l1 t513 t516 (!t517))) else (verditerlaw06_weighMarks.j0 k l1 t513 t516 true)) = some r := H
    have A8 := Aside0.mk A80
    clear A80
    have HC9 := Aside0.mk H
    clear H
    go_enter Try.func36, Try.ntmps36
    go_upto_region 5 with (first | ((with_reducible refine gate_callee (f := 43) rfl ?_); refine goesL_ (some 12) rfl rfl Try.func43 (by kernel_rfl) rfl #[.slice A1 l1.length c1] rfl (by (try simp only [List.map_toArray, List.map_cons, List.map_nil]); first | done | rfl | (simp only [List.length_drop, List.length_take]; rfl)) ?_; (with_reducible refine (verditerlaw06_Long.calls k _ _ l1 false _ ?side1 ?side2 A3.out).mono ?_); (case side1 => repeat (first | exact HR1.out | (with_reducible refine Kd.C_alloc ?_ _) | (with_reducible refine Kd.C_drewN ?_ _) | (with_reducible refine Kd.C_drew ?_))); (case side2 => exact HC1.out); rintro e w' ⟨rfl, ⟨nd, rfl⟩⟩; refine ⟨_, rfl, ?_⟩) | ((with_reducible refine gate_callee (f := 66) rfl ?_); refine goesL_ (some 17) rfl rfl Try.func66 (by kernel_rfl) rfl #[.int .i64 a0, .slice A1 l1.length c1] rfl (by (try simp only [List.map_toArray, List.map_cons, List.map_nil]); first | done | rfl | (simp only [List.length_drop, List.length_take]; rfl)) ?_; (with_reducible refine (verditerref06_Marks.calls k a0 _ _ l1 t509 t510 _ ?side1 ?side2 A7.out).mono ?_); (case side1 => repeat (first | exact HR1.out | (with_reducible refine Kd.C_alloc ?_ _) | (with_reducible refine Kd.C_drewN ?_ _) | (with_reducible refine Kd.C_drew ?_))); (case side2 => exact HC1.out); rintro e w10 ⟨v511, rfl, ho0, hb⟩; refine ⟨_, rfl, ?_⟩; have n0_ := Aside0.mk (Kd.N_lower (Kd.N_mono (ok' := fun k_ => True) (Kd.S_N (Kd.S_bound ho0)) (fun k_ hk_ => trivial)) (below_size (by repeat (first | (with_reducible first | exact HB.out | apply below_alloc | apply pw_below_drewN | apply below_drew1) | exact HB.out)))); have n1_ := Aside0.mk (below_step (by repeat (first | (with_reducible first | exact HB.out | apply below_alloc | apply pw_below_drewN | apply below_drew1) | exact HB.out)) hb); clear HB; have HO512 := n0_; have HB := n1_; clear n0_ n1_; (try clear hb); (try clear hb2); (try clear hk); (try clear hi); (try clear ho0)) | ((with_reducible refine gate_callee (f := 51) rfl ?_); refine goesL_ (some 23) rfl rfl Try.func51 (by kernel_rfl) rfl #[.int .i64 a0, .slice A1 l1.length c1] rfl (by (try simp only [List.map_toArray, List.map_cons, List.map_nil]); first | done | rfl | (simp only [List.length_drop, List.length_take]; rfl)) ?_; (with_reducible refine (weigh_Marks.calls a0 _ _ l1 t513 t516 _ ?side1 ?side2 A8.out).mono ?_); (case side1 => repeat (first | exact (Kd.C_below HR1.out HB.out) | (with_reducible refine Kd.C_alloc ?_ _) | (with_reducible refine Kd.C_drewN ?_ _) | (with_reducible refine Kd.C_drew ?_))); (case side2 => exact HC1.out); rintro e w11 ⟨v514, rfl, ho0, hb⟩; refine ⟨_, rfl, ?_⟩; have n0_ := Aside0.mk (Kd.N_elder' (by (with_reducible repeat (first | apply Kd.N_alloc | apply Kd.N_drewN | apply Kd.N_drew)); exact HO512.out) (Kd.N_base ho0) hb); have n1_ := Aside0.mk (Kd.N_lower (Kd.N_mono (ok' := fun k_ => some k_ ≠ (v511 : Value).ownBlock) ho0 (fun k_ hk_ => (Kd.fresh' (Kd.N_lt (by (with_reducible repeat (first | apply Kd.N_alloc | apply Kd.N_drewN | apply Kd.N_drew)); exact HO512.out)) k_ hk_))) (below_size (by repeat (first | (with_reducible first | exact HB.out | apply below_alloc | apply pw_below_drewN | apply below_drew1) | exact HB.out)))); have n2_ := Aside0.mk (below_step (by repeat (first | (with_reducible first | exact HB.out | apply below_alloc | apply pw_below_drewN | apply below_drew1) | exact HB.out)) hb); clear HO512; clear HB; have HO512 := n0_; have HO515 := n1_; have HB := n2_; clear n0_ n1_ n2_; (try clear hb); (try clear hb2); (try clear hk); (try clear hi); (try clear ho0)))
    (try simp only [Act.put, List.setIfInBounds_toArray, List.set_cons_zero, List.set_cons_succ])
    go_cut [34] (fun v34 wc => ∃ (kq : Nat) (x34_8 : Bool), v34 = .bool x34_8 ∧ Aside0 (verditerlaw06_weighMarks.j0 kq l1 t513 t516 x34_8 = some r) ∧ Aside0 (kq ≤ k) ∧ Aside0 (Kd.N (Kd.slice 3 (Kd.int .i64)) 43 wc w.heap.size (fun _ => True) v514 t513) ∧ Aside0 (Below w.heap.size w wc))
    case first =>
      have H := HC9.out
      clear HC9
      by_cases c12 : t516 = t510
      · rw [if_pos c12] at H
        have c12b0 : (t516 == t510) = true := beq_iff_eq.mpr c12
        have c12b1 : (t516 != t510) = false := bne_eq_false_iff_eq.mpr c12
        clear c12
        (first | rw [c12b0] | (simp only [i64_w, i32_w]; rw [c12b0]) | skip)
        replace H := Option.bind_eq_some_iff.mp H
        obtain ⟨t517, A130, H⟩ := H
        replace H : (verditerlaw06_weighMarks.j0 k l1 t513 t516 (!t517)) = some r := H
        have A13 := Aside0.mk A130
        clear A130
        have H' := Aside0.mk H
        clear H
        obtain ⟨Ao14, co14, eo14⟩ := Kd.N_slice HO515.out
        subst eo14
        obtain ⟨Ao15, co15, eo15⟩ := Kd.N_slice HO512.out
        subst eo15
        go_wp2_with (first | (go_at_call 53; (with_reducible refine (verditerref06_SameLists.calls k _ _ t513 _ _ t509 t517 _ ?side1 ?side2 ?side3 ?side4 A13.out).mono ?_); (case side1 => repeat (first | exact (Kd.N_reads' HO515.out).2.2 | (with_reducible refine Kd.C_alloc ?_ _) | (with_reducible refine Kd.C_drewN ?_ _) | (with_reducible refine Kd.C_drew ?_))); (case side2 => exact (Kd.N_reads' HO515.out).2.1); (case side3 => repeat (first | exact (Kd.N_reads' HO512.out).2.2 | (with_reducible refine Kd.C_alloc ?_ _) | (with_reducible refine Kd.C_drewN ?_ _) | (with_reducible refine Kd.C_drew ?_))); (case side4 => exact (Kd.N_reads' HO512.out).2.1); rintro e w' ⟨rfl, ⟨nd, rfl⟩⟩))
        go_meet
        case rel => exact ⟨_, (!t517), (by first | rfl | (simp; done) | (simp [*]; done)), H', ⟨by first | omega | exact Nat.le_refl _⟩, ⟨by (with_reducible repeat (first | apply Kd.N_alloc | apply Kd.N_drewN | apply Kd.N_drew)); exact Kd.N_mono HO515.out (fun _ hk => trivial)⟩, ⟨by repeat (first | (with_reducible first | exact HB.out | apply below_alloc | apply pw_below_drewN | apply below_drew1) | exact HB.out)⟩⟩
      · rw [if_neg c12] at H
        have c12b0 : (t516 == t510) = false := beq_eq_false_iff_ne.mpr c12
        have c12b1 : (t516 != t510) = true := bne_iff_ne.mpr c12
        (first | rw [c12b0] | (simp only [i64_w, i32_w]; rw [c12b0]) | skip)
        have H' := Aside0.mk H
        clear H
        go_wp2
        go_meet
        case rel => exact ⟨_, (true), (by first | rfl | (simp; done) | (simp [*]; done)), H', ⟨by first | omega | exact Nat.le_refl _⟩, ⟨by (with_reducible repeat (first | apply Kd.N_alloc | apply Kd.N_drewN | apply Kd.N_drew)); exact Kd.N_mono HO515.out (fun _ hk => trivial)⟩, ⟨by repeat (first | (with_reducible first | exact HB.out | apply below_alloc | apply pw_below_drewN | apply below_drew1) | exact HB.out)⟩⟩
    case rest =>
      clear HC9
      try clear c1
      try clear c2
      try clear p2
      try clear c3
      try clear c4
      try clear c5
      try clear c6
      try clear c12
      try clear c12b0
      try clear c12b1
      obtain ⟨kq, x34_8, rfl, HA, HJ8, HO_7, HB⟩ := hcut
      cases kq with
      | zero => exact absurd HA.out (by simp [verditerlaw06_weighMarks.j0])
      | succ kj8 =>
        have H := HA.out
        clear HA
        simp only [verditerlaw06_weighMarks.j0] at H
        by_cases c16 : x34_8 = true
        · subst c16
          have H1 : (some false) = some r := by rw [if_pos rfl] at H; exact H
          clear H
          have H := H1
          clear H1
          obtain rfl := Option.some.inj H
          go_wp2
          go_ret
          exact ⟨by first | rfl | (simp [errW_none, errW_some] <;> rfl) | (simp [*, errW_none, errW_some] <;> rfl), by repeat (first | (with_reducible first | exact HB.out | apply below_alloc | apply pw_below_drewN | apply below_drew1) | exact HB.out)⟩
        · replace c16 := Bool.eq_false_iff.mpr c16
          subst c16
          have H1 : (if t516 = 0 then ((weigh_FromMarks.f t513).bind fun bt518 => (if bt518.2 = 0 then ((verditerref06_Same.f kj8 bt518.1 l1).bind fun t522 => (if t522 = true then ((verditerlaw06_known.f kj8).bind fun t523 => (some t523)) else (some false))) else (some false))) else ((verditerlaw06_known.f kj8).bind fun t524 => (some t524))) = some r := by rw [if_neg (show ¬ (false = true) by decide)] at H; exact H
          clear H
          have H := H1
          clear H1
          by_cases c17 : t516 = 0
          · rw [if_pos c17] at H
            have c17b0 : (t516 == 0) = true := beq_iff_eq.mpr c17
            have c17b1 : (t516 != 0) = false := bne_eq_false_iff_eq.mpr c17
            clear c17
            replace H := Option.bind_eq_some_iff.mp H
            obtain ⟨⟨t518, t521⟩, A180, H⟩ := H
            replace H : (if t521 = 0 then ((verditerref06_Same.f kj8 t518 l1).bind fun t522 => (if t522 = true then ((verditerlaw06_known.f kj8).bind fun t523 => (some t523)) else (some false))) else (some false)) = some r := H
            have A18 := Aside0.mk A180
            clear A180
            by_cases c19 : t521 = 0
            · rw [if_pos c19] at H
              have c19b0 : (t521 == 0) = true := beq_iff_eq.mpr c19
              have c19b1 : (t521 != 0) = false := bne_eq_false_iff_eq.mpr c19
              clear c19
              replace H := Option.bind_eq_some_iff.mp H
              obtain ⟨t522, A200, H⟩ := H
              replace H : (if t522 = true then ((verditerlaw06_known.f kj8).bind fun t523 => (some t523)) else (some false)) = some r := H
              have A20 := Aside0.mk A200
              clear A200
              by_cases c21 : t522 = true
              · subst c21
                have H1 : ((verditerlaw06_known.f kj8).bind fun t523 => (some t523)) = some r := by rw [if_pos rfl] at H; exact H
                clear H
                have H := H1
                clear H1
                replace H := Option.bind_eq_some_iff.mp H
                obtain ⟨t523, A220, H⟩ := H
                replace H : (some t523) = some r := H
                have A22 := Aside0.mk A220
                clear A220
                obtain rfl := Option.some.inj H
                obtain ⟨Ao23, co23, eo23⟩ := Kd.N_slice HO_7.out
                subst eo23
                go_wp2_with (first | ((with_reducible refine gate_callee (f := 67) rfl ?_); refine goesL_ (some 40) rfl rfl Try.func67 (by kernel_rfl) rfl #[.slice Ao23 t513.length co23] rfl (by (try simp only [List.map_toArray, List.map_cons, List.map_nil]); first | done | rfl | (simp only [List.length_drop, List.length_take]; rfl)) ?_; (with_reducible refine (weigh_FromMarks.calls _ _ t513 t518 t521 _ ?side1 ?side2 A18.out).mono ?_); (case side1 => repeat (first | exact (Kd.N_reads' HO_7.out).2.2 | (with_reducible refine Kd.C_alloc ?_ _) | (with_reducible refine Kd.C_drewN ?_ _) | (with_reducible refine Kd.C_drew ?_))); (case side2 => exact (Kd.N_reads' HO_7.out).2.1); rintro e w24 ⟨v519, rfl, ho0, hb⟩; refine ⟨_, rfl, ?_⟩; have n0_ := Aside0.mk (Kd.N_elder' (by (with_reducible repeat (first | apply Kd.N_alloc | apply Kd.N_drewN | apply Kd.N_drew)); exact HO_7.out) (Kd.N_base ho0) hb); have n1_ := Aside0.mk (Kd.N_lower (Kd.N_mono (ok' := fun k_ => some k_ ≠ (.slice Ao23 t513.length co23 : Value).ownBlock) ho0 (fun k_ hk_ => (Kd.fresh' (Kd.N_lt (by (with_reducible repeat (first | apply Kd.N_alloc | apply Kd.N_drewN | apply Kd.N_drew)); exact HO_7.out)) k_ hk_))) (below_size (by repeat (first | (with_reducible first | exact HB.out | apply below_alloc | apply pw_below_drewN | apply below_drew1) | exact HB.out)))); have n2_ := Aside0.mk (below_step (by repeat (first | (with_reducible first | exact HB.out | apply below_alloc | apply pw_below_drewN | apply below_drew1) | exact HB.out)) hb); clear HO_7; clear HB; have HO_7 := n0_; have HO520 := n1_; have HB := n2_; clear n0_ n1_ n2_; (try clear hb); (try clear hb2); (try clear hk); (try clear hi); (try clear ho0); obtain ⟨Ao25, co25, eo25⟩ := Kd.N_slice HO520.out; subst eo25) | (go_at_call 68; (with_reducible refine (verditerref06_Same.calls kj8 _ _ t518 _ _ l1 true _ ?side1 ?side2 ?side3 ?side4 A20.out).mono ?_); (case side1 => repeat (first | exact (Kd.N_reads' HO520.out).2.2 | (with_reducible refine Kd.C_alloc ?_ _) | (with_reducible refine Kd.C_drewN ?_ _) | (with_reducible refine Kd.C_drew ?_))); (case side2 => exact (Kd.N_reads' HO520.out).2.1); (case side3 => repeat (first | exact (Kd.C_below HR1.out HB.out) | (with_reducible refine Kd.C_alloc ?_ _) | (with_reducible refine Kd.C_drewN ?_ _) | (with_reducible refine Kd.C_drew ?_))); (case side4 => exact HC1.out); rintro e w' ⟨rfl, ⟨nd, rfl⟩⟩) | (go_at_call 25; (with_reducible refine (verditerlaw06_known.calls kj8  t523 _ A22.out).mono ?_); rintro e w26 ⟨rfl, hb⟩; have n0_ := Aside0.mk (Kd.N_below (by (with_reducible repeat (first | apply Kd.N_alloc | apply Kd.N_drewN | apply Kd.N_drew)); exact HO_7.out) hb); have n1_ := Aside0.mk (Kd.N_below (by (with_reducible repeat (first | apply Kd.N_alloc | apply Kd.N_drewN | apply Kd.N_drew)); exact HO520.out) hb); have n2_ := Aside0.mk (below_step (by repeat (first | (with_reducible first | exact HB.out | apply below_alloc | apply pw_below_drewN | apply below_drew1) | exact HB.out)) hb); clear HO_7; clear HO520; clear HB; have HO_7 := n0_; have HO520 := n1_; have HB := n2_; clear n0_ n1_ n2_; (try clear hb); (try clear hb2); (try clear hk); (try clear hi)))
                go_ret
                exact ⟨by first | rfl | (simp [errW_none, errW_some] <;> rfl) | (simp [*, errW_none, errW_some] <;> rfl), by repeat (first | (with_reducible first | exact HB.out | apply below_alloc | apply pw_below_drewN | apply below_drew1) | exact HB.out)⟩
              · replace c21 := Bool.eq_false_iff.mpr c21
                subst c21
                have H1 : (some false) = some r := by rw [if_neg (show ¬ (false = true) by decide)] at H; exact H
                clear H
                have H := H1
                clear H1
                obtain rfl := Option.some.inj H
                obtain ⟨Ao27, co27, eo27⟩ := Kd.N_slice HO_7.out
                subst eo27
                go_wp2_with (first | ((with_reducible refine gate_callee (f := 67) rfl ?_); refine goesL_ (some 40) rfl rfl Try.func67 (by kernel_rfl) rfl #[.slice Ao27 t513.length co27] rfl (by (try simp only [List.map_toArray, List.map_cons, List.map_nil]); first | done | rfl | (simp only [List.length_drop, List.length_take]; rfl)) ?_; (with_reducible refine (weigh_FromMarks.calls _ _ t513 t518 t521 _ ?side1 ?side2 A18.out).mono ?_); (case side1 => repeat (first | exact (Kd.N_reads' HO_7.out).2.2 | (with_reducible refine Kd.C_alloc ?_ _) | (with_reducible refine Kd.C_drewN ?_ _) | (with_reducible refine Kd.C_drew ?_))); (case side2 => exact (Kd.N_reads' HO_7.out).2.1); rintro e w28 ⟨v519, rfl, ho0, hb⟩; refine ⟨_, rfl, ?_⟩; have n0_ := Aside0.mk (Kd.N_elder' (by (with_reducible repeat (first | apply Kd.N_alloc | apply Kd.N_drewN | apply Kd.N_drew)); exact HO_7.out) (Kd.N_base ho0) hb); have n1_ := Aside0.mk (Kd.N_lower (Kd.N_mono (ok' := fun k_ => some k_ ≠ (.slice Ao27 t513.length co27 : Value).ownBlock) ho0 (fun k_ hk_ => (Kd.fresh' (Kd.N_lt (by (with_reducible repeat (first | apply Kd.N_alloc | apply Kd.N_drewN | apply Kd.N_drew)); exact HO_7.out)) k_ hk_))) (below_size (by repeat (first | (with_reducible first | exact HB.out | apply below_alloc | apply pw_below_drewN | apply below_drew1) | exact HB.out)))); have n2_ := Aside0.mk (below_step (by repeat (first | (with_reducible first | exact HB.out | apply below_alloc | apply pw_below_drewN | apply below_drew1) | exact HB.out)) hb); clear HO_7; clear HB; have HO_7 := n0_; have HO520 := n1_; have HB := n2_; clear n0_ n1_ n2_; (try clear hb); (try clear hb2); (try clear hk); (try clear hi); (try clear ho0); obtain ⟨Ao29, co29, eo29⟩ := Kd.N_slice HO520.out; subst eo29) | (go_at_call 68; (with_reducible refine (verditerref06_Same.calls kj8 _ _ t518 _ _ l1 false _ ?side1 ?side2 ?side3 ?side4 A20.out).mono ?_); (case side1 => repeat (first | exact (Kd.N_reads' HO520.out).2.2 | (with_reducible refine Kd.C_alloc ?_ _) | (with_reducible refine Kd.C_drewN ?_ _) | (with_reducible refine Kd.C_drew ?_))); (case side2 => exact (Kd.N_reads' HO520.out).2.1); (case side3 => repeat (first | exact (Kd.C_below HR1.out HB.out) | (with_reducible refine Kd.C_alloc ?_ _) | (with_reducible refine Kd.C_drewN ?_ _) | (with_reducible refine Kd.C_drew ?_))); (case side4 => exact HC1.out); rintro e w' ⟨rfl, ⟨nd, rfl⟩⟩))
                go_ret
                exact ⟨by first | rfl | (simp [errW_none, errW_some] <;> rfl) | (simp [*, errW_none, errW_some] <;> rfl), by repeat (first | (with_reducible first | exact HB.out | apply below_alloc | apply pw_below_drewN | apply below_drew1) | exact HB.out)⟩
            · rw [if_neg c19] at H
              have c19b0 : (t521 == 0) = false := beq_eq_false_iff_ne.mpr c19
              have c19b1 : (t521 != 0) = true := bne_iff_ne.mpr c19
              obtain rfl := Option.some.inj H
              obtain ⟨Ao30, co30, eo30⟩ := Kd.N_slice HO_7.out
              subst eo30
              go_wp2_with (first | ((with_reducible refine gate_callee (f := 67) rfl ?_); refine goesL_ (some 40) rfl rfl Try.func67 (by kernel_rfl) rfl #[.slice Ao30 t513.length co30] rfl (by (try simp only [List.map_toArray, List.map_cons, List.map_nil]); first | done | rfl | (simp only [List.length_drop, List.length_take]; rfl)) ?_; (with_reducible refine (weigh_FromMarks.calls _ _ t513 t518 t521 _ ?side1 ?side2 A18.out).mono ?_); (case side1 => repeat (first | exact (Kd.N_reads' HO_7.out).2.2 | (with_reducible refine Kd.C_alloc ?_ _) | (with_reducible refine Kd.C_drewN ?_ _) | (with_reducible refine Kd.C_drew ?_))); (case side2 => exact (Kd.N_reads' HO_7.out).2.1); rintro e w31 ⟨v519, rfl, ho0, hb⟩; refine ⟨_, rfl, ?_⟩; have n0_ := Aside0.mk (Kd.N_elder' (by (with_reducible repeat (first | apply Kd.N_alloc | apply Kd.N_drewN | apply Kd.N_drew)); exact HO_7.out) (Kd.N_base ho0) hb); have n1_ := Aside0.mk (Kd.N_lower (Kd.N_mono (ok' := fun k_ => some k_ ≠ (.slice Ao30 t513.length co30 : Value).ownBlock) ho0 (fun k_ hk_ => (Kd.fresh' (Kd.N_lt (by (with_reducible repeat (first | apply Kd.N_alloc | apply Kd.N_drewN | apply Kd.N_drew)); exact HO_7.out)) k_ hk_))) (below_size (by repeat (first | (with_reducible first | exact HB.out | apply below_alloc | apply pw_below_drewN | apply below_drew1) | exact HB.out)))); have n2_ := Aside0.mk (below_step (by repeat (first | (with_reducible first | exact HB.out | apply below_alloc | apply pw_below_drewN | apply below_drew1) | exact HB.out)) hb); clear HO_7; clear HB; have HO_7 := n0_; have HO520 := n1_; have HB := n2_; clear n0_ n1_ n2_; (try clear hb); (try clear hb2); (try clear hk); (try clear hi); (try clear ho0)))
              go_ret
              exact ⟨by first | rfl | (simp [errW_none, errW_some] <;> rfl) | (simp [*, errW_none, errW_some] <;> rfl), by repeat (first | (with_reducible first | exact HB.out | apply below_alloc | apply pw_below_drewN | apply below_drew1) | exact HB.out)⟩
          · rw [if_neg c17] at H
            have c17b0 : (t516 == 0) = false := beq_eq_false_iff_ne.mpr c17
            have c17b1 : (t516 != 0) = true := bne_iff_ne.mpr c17
            replace H := Option.bind_eq_some_iff.mp H
            obtain ⟨t524, A320, H⟩ := H
            replace H : (some t524) = some r := H
            have A32 := Aside0.mk A320
            clear A320
            obtain rfl := Option.some.inj H
            go_wp2_with (first | ((with_reducible refine gate_callee (f := 25) rfl ?_); refine goesL_ (some 37) rfl rfl Try.func25 (by kernel_rfl) rfl #[] rfl (by (try simp only [List.map_toArray, List.map_cons, List.map_nil]); first | done | rfl | (simp only [List.length_drop, List.length_take]; rfl)) ?_; (with_reducible refine (verditerlaw06_known.calls kj8  t524 _ A32.out).mono ?_); rintro e w33 ⟨rfl, hb⟩; refine ⟨_, rfl, ?_⟩; have n0_ := Aside0.mk (Kd.N_below (by (with_reducible repeat (first | apply Kd.N_alloc | apply Kd.N_drewN | apply Kd.N_drew)); exact HO_7.out) hb); have n1_ := Aside0.mk (below_step (by repeat (first | (with_reducible first | exact HB.out | apply below_alloc | apply pw_below_drewN | apply below_drew1) | exact HB.out)) hb); clear HO_7; clear HB; have HO_7 := n0_; have HB := n1_; clear n0_ n1_; (try clear hb); (try clear hb2); (try clear hk); (try clear hi)))
            go_ret
            exact ⟨by first | rfl | (simp [errW_none, errW_some] <;> rfl) | (simp [*, errW_none, errW_some] <;> rfl), by repeat (first | (with_reducible first | exact HB.out | apply below_alloc | apply pw_below_drewN | apply below_drew1) | exact HB.out)⟩

end Go.Proofs.Ytdbeochifofdoaa.X
end

section
/-! The law WeighMarks: own := KeepWeighings(plan); what it states; KeptWeighings(own, plan). -/
namespace Go.Proofs.Ytdbeochifofdoaa.X
open Go.RowKit Go.Proofs.YtdbeochifofdoaaW.PrintWords Go.Proofs.YtdbeochifofdoaaW.PrintLast Go.Proofs.YtdbeochifofdoaaW.PrintMore
set_option linter.unusedVariables false
set_option linter.unusedSimpArgs false

set_option maxHeartbeats 4000000 in
set_option maxRecDepth 100000 in
theorem weighMarks_calls (k : Nat) (a0 : Int) (A : Option Addr) (l : List S53) (ys : List S53) (w : World) (hl : Kd.C k53 w A l.length l) (hc : l.length ≤ ys.length) (hF : FullW w A ys) (hn : ys.length ≤ 2932031007402)
    (hs : ∀ y, y ∈ ys → y.f0.length ≤ 17592186044416 ∧ y.f1.length ≤ 17592186044416) (h : verditerlaw06_weighMarks.f k a0 l = some true) :
    Calls Try.prog 12 #[.int .i64 a0, .slice A l.length ys.length] w fun e w' => e = .returned (.bool true) ∧ Below w.heap.size w w' := by
  have HL := Aside0.mk hl
  have HF := Aside0.mk hF
  have HS := Aside0.mk hs
  have H := Aside0.mk h
  clear hl hF hs h
  go_enter Try.func12, Try.ntmps12
  go_wp2_with fail
  refine (keepW_calls A l.length ys w HF.out hc hn HS.out).mono ?_
  rintro e w1 ⟨v, rfl, hN, hB1⟩
  obtain ⟨Ao, co, rfl⟩ := Kd.N_slice hN
  have HO := Aside0.mk (Kd.N_reads' hN).2.2
  have HB1 := Aside0.mk hB1
  clear hN hB1
  go_wp2_with fail
  refine (verditerlaw06_weighMarks.calls k a0 A ys.length l true _ (Kd.C_below HL.out HB1.out) hc H.out).mono ?_
  rintro e w2 ⟨rfl, hB2⟩
  have HB2 := Aside0.mk hB2
  have HB := Aside0.mk (HB1.out.trans (hB2.mono HB1.out.size))
  clear hB2
  go_wp2_with fail
  refine (keptW_calls Ao co A l.length ys _ (Kd.C_below HO.out HB2.out) (HF.out.below HB.out) hc).mono ?_
  rintro e w3 ⟨rfl, hB3⟩
  have HB3 := Aside0.mk (HB.out.trans (hB3.mono HB.out.size))
  clear hB3
  go_wp2
  go_ret
  exact ⟨rfl, HB3.out⟩
end Go.Proofs.Ytdbeochifofdoaa.X
end

section
/-! A plan that comes in: what its cells hold, up to its length and up to its capacity. -/
namespace Go.Proofs.Ytdbeochifofdoaa.X
open Go.ChangeShapes Go.WideShapes Go.RowKit Go.Proofs.YtdbeochifofdoaaW.PrintWords Go.Proofs.YtdbeochifofdoaaW.PrintLast Go.Proofs.YtdbeochifofdoaaW.PrintMore
set_option linter.unusedVariables false
set_option linter.unusedSimpArgs false

theorem list_of {α : Type} (d : α) (n : Nat) (P : Nat → α → Prop) (h : ∀ i, i < n → ∃ y, P i y) : ∃ ys : List α, ys.length = n ∧ ∀ i, i < n → P i (ys.getD i d) := by
  classical
  refine ⟨(List.range n).map (fun i => if h' : i < n then (h i h').choose else d), by simp, fun i hi => ?_⟩
  have : ((List.range n).map (fun i => if h' : i < n then (h i h').choose else d)).getD i d = (h i hi).choose := by simp [List.getD_eq_getElem?_getD, hi]
  rw [this]
  exact (h i hi).choose_spec
theorem C_take {α : Type} {d : Kd α} {w : World} {A : Option Addr} {n : Nat} {xs : List α} (h : d.C w A n xs) (m : Nat) (hm : m ≤ n) : d.C w A m (xs.take m) := by
  obtain ⟨h1, h2, h3⟩ := h
  refine ⟨by rw [List.length_take]; omega, by omega, fun h0 => ?_⟩
  obtain ⟨ad, e, hc⟩ := h3 (by omega)
  refine ⟨ad, e, fun j p hj => hc j p ?_⟩
  rw [List.getElem?_take] at hj
  split at hj
  · exact hj
  · cases hj
theorem weights_mem_all {H : Type} {P : Program} {t : TypeId} : ∀ {ds : List (DataW H)} {d : DataW H}, d ∈ ds → ∀ n ∈ d.weights P t, n ∈ DataW.weightsAll P t ds
  | d0 :: ds, d, hd, n, hn => by
    rw [DataW.weightsAll, List.mem_append]
    rcases List.mem_cons.1 hd with rfl | hd
    · exact .inl hn
    · exact .inr (weights_mem_all hd n hn)
  | [], _, hd, _, _ => by cases hd
theorem o_bytes3 : Try.prog.bytesOf 3 = 8 := by kernel_rfl
theorem o_bytes53 : Try.prog.bytesOf 53 = 48 := by kernel_rfl
theorem o_cells3 : Try.prog.cellsOf 3 = 1 := by kernel_rfl
theorem o_cells43 : Try.prog.cellsOf 43 = 1 := by kernel_rfl
theorem o_cells53 : Try.prog.cellsOf 53 = 2 := by kernel_rfl
/-- A list of numbers that comes in. -/
theorem open_intsK {H : Type} {enc : TypeId × Value → H} {W : World} {t : TypeId} {fuel : Nat} {cs : List Value} {x : DataW H × List MemPlace} (ht : Try.prog.underlying t = some (.slice 3))
    (h : DataW.trod enc Try.prog W 0 (fun _ => true) true fuel t cs = some x) (hsz : ∀ n ∈ x.1.weights Try.prog t, n ≤ reachBytes) :
    ∃ (A : Option Addr) (n : Nat) (ys : List Int), cs = [.slice A n ys.length] ∧ n ≤ ys.length ∧ ys.length ≤ 17592186044416 ∧ Kd.C (Kd.int .i64) W A ys.length ys ∧ ∀ z, z ∈ ys → (Lit.int .i64 z).wf = true := by
  rcases open_ints ht Try.underlying3 o_cells3 h with ⟨rfl, rfl⟩ | ⟨a, len, cap, zs, rfl, _, hl, hm, hz, rfl, hcell, hwz⟩
  · exact ⟨none, 0, [], rfl, Nat.le_refl _, by simp, ⟨rfl, by simp, fun h => absurd h (by simp)⟩, fun z hz => by cases hz⟩
  · rw [if_pos rfl] at hz
    subst hz
    have hw : zs.length * 8 ≤ reachBytes := by
      have := hsz ((lits (H := H) .i64 (zs.take len) ++ lits (H := H) .i64 (zs.drop len)).length * Try.prog.bytesOf 3) (by simp [DataW.weights, ht])
      rw [o_bytes3] at this
      simpa [lits, Nat.min_eq_left hl, Nat.add_sub_cancel' hl] using this
    unfold reachBytes at hw
    refine ⟨some a, len, zs, rfl, hl, by omega, Kd.C_of_reads (d := (0 : Int)) (h1 := fun _ => rfl) ⟨rfl, by omega, fun _ => ⟨a, rfl, fun j hj => hcell j hj⟩⟩, fun z hz => ?_⟩
    exact hwz z hz
/-- One weighing that comes in, and its lists' lengths. -/
structure PlanAt (W : World) (a : Addr) (z : S53 × Nat × Nat) : Prop where
  at_ : ∃ Al Ar, W.cell? a = some (.slice Al z.2.1 z.1.f0.length) ∧ W.cell? ⟨a.block, a.off + 1, none⟩ = some (.slice Ar z.2.2 z.1.f1.length) ∧ Kd.C (Kd.int .i64) W Al z.1.f0.length z.1.f0 ∧ Kd.C (Kd.int .i64) W Ar z.1.f1.length z.1.f1
  nl : z.2.1 ≤ z.1.f0.length
  nr : z.2.2 ≤ z.1.f1.length
  bl : z.1.f0.length ≤ 17592186044416
  br : z.1.f1.length ≤ 17592186044416
  il : ∀ x, x ∈ z.1.f0 → (Lit.int .i64 x).wf = true
  ir : ∀ x, x ∈ z.1.f1 → (Lit.int .i64 x).wf = true
theorem o_underlying43 : Try.prog.underlying 43 = some (.slice 3) := by kernel_rfl
theorem o_two_of {α : Type} {l : List α} (h : l.length = 2) : ∃ a b, l = [a, b] := by
  match l, h with
  | [a, b], _ => exact ⟨a, b, rfl⟩
theorem open_weighing {H : Type} {enc : TypeId × Value → H} {W : World} {a : Addr} {fuel : Nat} {cs : List Value} {x : DataW H × List MemPlace} (hc : W.cells? 0 a 2 = some cs)
    (h : DataW.trod enc Try.prog W 0 (fun _ => true) true fuel 53 cs = some x) (hsz : ∀ n ∈ x.1.weights Try.prog 53, n ≤ reachBytes) : ∃ z, PlanAt W a z := by
  obtain ⟨xs, n, _, rfl, hcs, hxs, hf⟩ := DataW.trod_struct Try.underlying53 h
  obtain ⟨_, h2, hcell⟩ := World.cells?_some hc
  obtain ⟨c0, c1, rfl⟩ : ∃ c0 c1, cs = [c0, c1] := o_two_of h2
  obtain ⟨x0, x1, rfl⟩ : ∃ c0 c1, xs = [c0, c1] := o_two_of hxs
  have e0 := hf 0 ⟨"Left", 43, 0, false, "", "", 0⟩ rfl
  have e1 := hf 1 ⟨"Right", 43, 1, false, "", "", 24⟩ rfl
  rw [o_cells43] at e0 e1
  simp only [DataW.weights, Try.underlying53, List.map_cons, List.map_nil, DataW.weightsEach, List.append_nil, List.mem_append] at hsz
  obtain ⟨A0, n0, ys0, q0, l0, b0, C0, i0⟩ := open_intsK o_underlying43 e0 (fun m hm => hsz m (.inl hm))
  obtain ⟨A1, n1, ys1, q1, l1, b1, C1, i1⟩ := open_intsK o_underlying43 e1 (fun m hm => hsz m (.inr hm))
  obtain rfl : c0 = .slice A0 n0 ys0.length := by simpa using q0
  obtain rfl : c1 = .slice A1 n1 ys1.length := by simpa using q1
  have k0 := hcell 0 (by omega)
  have k1 := hcell 1 (by omega)
  refine ⟨(⟨ys0, ys1⟩, n0, n1), ⟨A0, A1, ?_, ?_, C0, C1⟩, l0, l1, b0, b1, i0, i1⟩
  · simpa [Addr.add] using k0
  · simpa [Addr.add] using k1
theorem open_plan {H : Type} {enc : TypeId × Value → H} {W : World} {v : Value} {d : DataW H} {ps : List MemPlace} (h : DataW.Trod enc Try.prog W 0 (fun _ => true) true 22 v d ps) (hv : v.cells = #[v])
    (hsz : ∀ n ∈ d.weights Try.prog 22, n ≤ reachBytes) :
    ∃ (A : Option Addr) (l ys : List S53), v = .slice A l.length ys.length ∧ l.length ≤ ys.length ∧ ys.length ≤ 2932031007402 ∧ Kd.C k53 W A l.length l ∧ FullW W A ys ∧
      (∀ y, y ∈ ys → y.f0.length ≤ 17592186044416 ∧ y.f1.length ≤ 17592186044416) ∧ (∀ y, y ∈ l → (∀ x, x ∈ y.f0 → (Lit.int .i64 x).wf = true) ∧ (∀ x, x ∈ y.f1 → (Lit.int .i64 x).wf = true) ∧ y.f0.length ≤ 17592186044416 ∧ y.f1.length ≤ 17592186044416) := by
  obtain ⟨fuel, hf⟩ := h
  rw [hv] at hf
  rcases DataW.trod_slice Try.underlying22 hf with ⟨hcs, _⟩ | ⟨a, len, cap, elems, rest, n, _, hcs, hx, _, hl, hm, hlen, hel, hsp, _⟩
  · obtain rfl : v = .slice none 0 0 := by simpa using hcs
    exact ⟨none, [], [], rfl, Nat.le_refl _, by simp, ⟨rfl, by simp, fun h => absurd h (by simp)⟩, fun i hi => absurd hi (by simp), fun y hy => (by cases hy), fun y hy => (by cases hy)⟩
  obtain rfl : v = .slice (some a) len cap := by simpa using hcs
  obtain ⟨hrl, hre⟩ := hsp rfl
  obtain ⟨rfl, _⟩ := Prod.mk.inj hx
  simp only [DataW.weights, Try.underlying22, o_bytes53, List.mem_cons, List.mem_append] at hsz
  have hb : (len + (cap - len)) * 48 ≤ reachBytes := by
    have := hsz _ (.inl rfl)
    simpa [hlen, hrl] using this
  unfold reachBytes at hb
  rw [o_cells53] at hel hre
  have each : ∀ i, i < cap → ∃ z, PlanAt W (a.add (i * 2)) z := by
    intro i hi
    by_cases hil : i < len
    · have e := hel i hil
      rw [List.getElem?_eq_getElem (by omega)] at e
      obtain ⟨cs, hc, ht⟩ := Option.bind_eq_some_iff.1 e
      exact open_weighing hc ht (fun m hm => hsz m (.inr (.inl (weights_mem_all (List.mem_map.2 ⟨_, List.getElem_mem _, rfl⟩) m hm))))
    · have e := hre (i - len) (by omega)
      rw [List.getElem?_eq_getElem (by omega), show len + (i - len) = i by omega] at e
      obtain ⟨cs, hc, ht⟩ := Option.bind_eq_some_iff.1 e
      exact open_weighing hc ht (fun m hm => hsz m (.inr (.inr (weights_mem_all (List.mem_map.2 ⟨_, List.getElem_mem _, rfl⟩) m hm))))
  obtain ⟨zs, hzl, hz⟩ := list_of (z53, 0, 0) cap _ each
  have hget : ∀ i, i < cap → (zs.map (·.1)).getD i z53 = (zs.getD i (z53, 0, 0)).1 := by
    intro i hi
    simp [List.getD_eq_getElem?_getD, List.getElem?_map, List.getElem?_eq_getElem (show i < zs.length by omega)]
  have hmem : ∀ z, z ∈ zs → ∃ b, PlanAt W b z := by
    intro z h
    obtain ⟨i, hi, rfl⟩ := List.mem_iff_getElem.1 h
    have := hz i (by omega)
    rw [List.getD_eq_getElem?_getD, List.getElem?_eq_getElem hi] at this
    exact ⟨_, this⟩
  have hl2 : ((zs.take len).map fun z => (⟨z.1.f0.take z.2.1, z.1.f1.take z.2.2⟩ : S53)).length = len := by simp; omega
  have hl3 : (zs.map (·.1)).length = cap := by simp; omega
  refine ⟨some a, (zs.take len).map fun z => ⟨z.1.f0.take z.2.1, z.1.f1.take z.2.2⟩, zs.map (·.1), by rw [hl2, hl3], by omega, by omega, ?_, ?_, ?_, ?_⟩
  · refine ⟨rfl, by omega, fun h0 => ⟨a, rfl, fun j p hj => ?_⟩⟩
    rw [List.getElem?_map, Option.map_eq_some_iff] at hj
    obtain ⟨z, hj, rfl⟩ := hj
    rw [List.getElem?_take] at hj
    split at hj
    rotate_left
    · cases hj
    rename_i hjl
    have hp := hz j (by omega)
    rw [List.getD_eq_getElem?_getD, hj, Option.getD_some] at hp
    obtain ⟨Al, Ar, h0, h1, hC0, hC1⟩ := hp.at_
    have t0 := C_take hC0 _ hp.nl
    have t1 := C_take hC1 _ hp.nr
    have n0 : (z.1.f0.take z.2.1).length = z.2.1 := by rw [List.length_take]; have := hp.nl; omega
    have n1 : (z.1.f1.take z.2.2).length = z.2.2 := by rw [List.length_take]; have := hp.nr; omega
    refine ⟨[.slice Al (z.1.f0.take z.2.1).length z.1.f0.length, .slice Ar (z.1.f1.take z.2.2).length z.1.f1.length], rfl, k53_mk W ⟨z.1.f0.take z.2.1, z.1.f1.take z.2.2⟩ (by rw [n0]; exact hp.nl) (by rw [n0]; exact t0) (by rw [n1]; exact hp.nr) (by rw [n1]; exact t1), ?_⟩
    rw [n0, n1]
    intro i u hu
    match i with
    | 0 =>
      obtain rfl := Option.some.inj hu
      rw [show k53.sz = 2 from rfl, Nat.add_zero]
      exact h0
    | 1 =>
      obtain rfl := Option.some.inj hu
      rw [show k53.sz = 2 from rfl, add_field a (j * 2) 1 (by omega)]
      exact h1
    | i + 2 => cases hu
  · intro i hi
    rw [hl3] at hi
    have hp := hz i hi
    obtain ⟨Al, Ar, h0, h1, hC0, hC1⟩ := hp.at_
    rw [hget i hi]
    exact ⟨a, Al, _, Ar, _, rfl, h0, h1, hp.nl, hp.nr, hC0, hC1⟩
  · intro y hy
    obtain ⟨z, hz, rfl⟩ := List.mem_map.1 hy
    obtain ⟨b, hp⟩ := hmem z hz
    exact ⟨hp.bl, hp.br⟩
  · intro y hy
    obtain ⟨z, hz, rfl⟩ := List.mem_map.1 hy
    obtain ⟨b, hp⟩ := hmem z (List.mem_of_mem_take hz)
    have := hp.bl
    have := hp.br
    exact ⟨fun x hx => hp.il x (List.mem_of_mem_take hx), fun x hx => hp.ir x (List.mem_of_mem_take hx), by rw [List.length_take]; omega, by rw [List.length_take]; omega⟩
end Go.Proofs.Ytdbeochifofdoaa.X
end

section
/-! Cases that come in, and lists of numbers. -/
namespace Go.Proofs.Ytdbeochifofdoaa.X
open Go.ChangeShapes Go.WideShapes Go.RowKit Go.Proofs.YtdbeochifofdoaaW.PrintWords Go.Proofs.YtdbeochifofdoaaW.PrintLast Go.Proofs.YtdbeochifofdoaaW.PrintMore
set_option linter.unusedVariables false
set_option linter.unusedSimpArgs false

theorem open_case2 {H : Type} {enc : TypeId × Value → H} {W : World} {fuel : Nat} {cs : List Value} {x : DataW H × List MemPlace}
    (h : DataW.trod enc Try.prog W 0 (fun _ => true) true fuel 35 cs = some x) : ∃ a b : Int, cs = [.int .i64 a, .int .i64 b] ∧ (Lit.int .i64 a).wf = true ∧ (Lit.int .i64 b).wf = true := by
  obtain ⟨xs, n, _, rfl, hcs, hxs, hf⟩ := DataW.trod_struct Try.underlying35 h
  rw [show Try.prog.cellsOf 35 = 2 from by kernel_rfl] at hcs
  obtain ⟨c0, c1, rfl⟩ : ∃ c0 c1, cs = [c0, c1] := o_two_of hcs
  obtain ⟨x0, x1, rfl⟩ : ∃ c0 c1, xs = [c0, c1] := o_two_of hxs
  have e0 := hf 0 ⟨"Lot", 3, 0, false, "", "", 0⟩ rfl
  have e1 := hf 1 ⟨"Way", 3, 1, false, "", "", 8⟩ rfl
  rw [o_cells3] at e0 e1
  obtain ⟨a, q0, _, w0⟩ := DataW.trod_int Try.underlying3 e0
  obtain ⟨b, q1, _, w1⟩ := DataW.trod_int Try.underlying3 e1
  obtain rfl : c0 = .int .i64 a := by simpa using q0
  obtain rfl : c1 = .int .i64 b := by simpa using q1
  exact ⟨a, b, rfl, w0, w1⟩
set_option maxRecDepth 100000 in
theorem open_case {H : Type} {enc : TypeId × Value → H} {W : World} {r : Reach} {b0 : Nat} {v : Value} {d : DataW H} {ps : List MemPlace} (hv : Value.okWide Try.prog W r b0 35 v) (h : DataW.Trod enc Try.prog W 0 (fun _ => true) true 35 v d ps) :
    ∃ a b : Int, v = .agg #[.int .i64 a, .int .i64 b] ∧ (Lit.int .i64 a).wf = true ∧ (Lit.int .i64 b).wf = true := by
  obtain ⟨cs, rfl, _⟩ := okWide_struct Try.underlying35 hv
  obtain ⟨fuel, hf⟩ := h
  obtain ⟨a, b, e, w0, w1⟩ := open_case2 hf
  have e2 : cs = #[.int .i64 a, .int .i64 b] := Array.toList_inj.1 e
  exact ⟨a, b, by rw [e2], w0, w1⟩
theorem o_underlying38 : Try.prog.underlying 38 = Try.prog.underlying 37 := by kernel_rfl
set_option maxRecDepth 100000 in
theorem open_two {H : Type} {enc : TypeId × Value → H} {W : World} {r : Reach} {b0 : Nat} {v : Value} {d : DataW H} {ps : List MemPlace} (hv : Value.okWide Try.prog W r b0 38 v) (h : DataW.Trod enc Try.prog W 0 (fun _ => true) true 38 v d ps) :
    ∃ a b c d : Int, v = .agg #[.int .i64 a, .int .i64 b, .int .i64 c, .int .i64 d] := by
  have hu := o_underlying38.trans Try.underlying37
  obtain ⟨cs, rfl, _⟩ := okWide_struct hu hv
  obtain ⟨fuel, hf⟩ := h
  obtain ⟨xs, n, _, _, hcs, hxs, hf⟩ := DataW.trod_struct hu hf
  obtain ⟨x0, x1, rfl⟩ : ∃ c0 c1, xs = [c0, c1] := o_two_of hxs
  have e0 := hf 0 ⟨"C", 35, 0, false, "", "", 0⟩ rfl
  have e1 := hf 1 ⟨"D", 35, 2, false, "", "", 16⟩ rfl
  rw [show Try.prog.cellsOf 38 = 4 from by kernel_rfl] at hcs
  rw [show Try.prog.cellsOf 35 = 2 from by kernel_rfl] at e0 e1
  obtain ⟨a, b, q0, _, _⟩ := open_case2 e0
  obtain ⟨c, d, q1, _, _⟩ := open_case2 e1
  refine ⟨a, b, c, d, ?_⟩
  have hc : cs.toList = [.int .i64 a, .int .i64 b, .int .i64 c, .int .i64 d] := by
    have h1 : cs.toList.take 2 = [.int .i64 a, .int .i64 b] := q0
    have h2 : cs.toList.drop 2 = [.int .i64 c, .int .i64 d] := by
      have : (cs.toList.drop 2).take 2 = [.int .i64 c, .int .i64 d] := q1
      rwa [List.take_of_length_le (by rw [List.length_drop]; simp only [Value.cells] at hcs; omega)] at this
    rw [← List.take_append_drop 2 cs.toList, h1, h2]
    rfl
  have e2 : cs = #[.int .i64 a, .int .i64 b, .int .i64 c, .int .i64 d] := Array.toList_inj.1 hc
  rw [e2]
/-- A list of numbers that comes in, up to its length and up to its capacity. -/
theorem open_nums {H : Type} {enc : TypeId × Value → H} {W : World} {v : Value} {d : DataW H} {ps : List MemPlace} (h : DataW.Trod enc Try.prog W 0 (fun _ => true) true 43 v d ps) (hv : v.cells = #[v])
    (hsz : ∀ n ∈ d.weights Try.prog 43, n ≤ reachBytes) :
    ∃ (A : Option Addr) (l ys : List Int), v = .slice A l.length ys.length ∧ l.length ≤ ys.length ∧ ys.length ≤ 17592186044416 ∧ Kd.C (Kd.int .i64) W A l.length l ∧ Kd.C (Kd.int .i64) W A ys.length ys ∧ ∀ x, x ∈ l → (Lit.int .i64 x).wf = true := by
  obtain ⟨fuel, hf⟩ := h
  rw [hv] at hf
  obtain ⟨A, n, ys, hcs, hn, hl, hC, hw⟩ := open_intsK o_underlying43 hf hsz
  obtain rfl : v = .slice A n ys.length := by simpa using hcs
  have e : (ys.take n).length = n := by rw [List.length_take]; omega
  refine ⟨A, ys.take n, ys, by rw [e], by omega, hl, ?_, hC, fun x hx => hw x (List.mem_of_mem_take hx)⟩
  rw [e]
  exact C_take hC n hn
end Go.Proofs.Ytdbeochifofdoaa.X
end

section
-- Written by a program of this session (wip/hook.py, which runs the kit's print.py with contracts proved by hand). Not trusted: Lean checks it.
namespace Go.Proofs.Ytdbeochifofdoaa.X
open Go.RowKit Go.Proofs.YtdbeochifofdoaaW.PrintWords Go.Proofs.YtdbeochifofdoaaW.PrintLast Go.Proofs.YtdbeochifofdoaaW.PrintMore
attribute [local go_sem] max2_int min2_int max_two min_two max_three min_three max_four min_four   -- for this text's walks alone
set_option linter.unusedVariables false
set_option linter.unusedSimpArgs false

/-! ### verditerref06_times: function 79 -/
def verditerref06_times.l0 : Nat → List Int → Int → List Int → Int → Option (List Int)
  | 0, _, _, _, _ => none
  | k + 1, x0, x1, x5, x6 => if x6 < (x0.length : Int) then (if 0 ≤ x6 then (if x5.length < 17592186044416 then (verditerref06_times.l0 k x0 x1 (x5 ++ [wrap64 (x1 * (rd x0 x6))]) (wrap64 (x6 + 1))) else (none)) else (none)) else (some x5)
def verditerref06_times.f (k : Nat) (l0 : List Int) (a1 : Int) : Option (List Int) := verditerref06_times.l0 k l0 a1 ([] : List Int) 0
theorem verditerref06_times.mono_l : ∀ k, (∀ y0 y1 y2 y3, LeO (verditerref06_times.l0 k y0 y1 y2 y3) (verditerref06_times.l0 (k + 1) y0 y1 y2 y3))
  | 0 => fun _ _ _ _ r h => by simp [verditerref06_times.l0] at h
  | k + 1 => by
    have ih0 := verditerref06_times.mono_l k
    · intro y0 y1 y2 y3
      unfold verditerref06_times.l0
      repeat' first
      | (with_reducible exact ih0 _ _ _ _)
      | (with_reducible exact LeO.refl _)
      | (with_reducible exact LeO.none _)
      | (with_reducible refine LeO.ite ?_ ?_)
      | (with_reducible refine LeO.bind ?_ (fun _ => ?_))
      | exact ih0 _ _ _ _
      | exact LeO.none _
      | refine LeO.ite ?_ ?_
      | refine LeO.bind ?_ (fun _ => ?_)
theorem verditerref06_times.mono : ∀ a0 a1 k, LeO (verditerref06_times.f k a0 a1) (verditerref06_times.f (k + 1) a0 a1) := by
  intro a0 a1 k
  have ih0 := verditerref06_times.mono_l k
  unfold verditerref06_times.f
  repeat' first
      | (with_reducible exact ih0 _ _ _ _)
      | (with_reducible exact LeO.refl _)
      | (with_reducible exact LeO.none _)
      | (with_reducible refine LeO.ite ?_ ?_)
      | (with_reducible refine LeO.bind ?_ (fun _ => ?_))
      | exact ih0 _ _ _ _
      | exact LeO.none _
      | refine LeO.ite ?_ ?_
      | refine LeO.bind ?_ (fun _ => ?_)
set_option maxHeartbeats 8000000 in
set_option maxRecDepth 100000 in
theorem verditerref06_times.calls (k : Nat) (A0 : Option Addr) (c0 : Nat) (l0 : List Int) (a1 : Int) (r : List Int) (w : World) (hr0 : Kd.C (Kd.int .i64) w A0 l0.length l0) (hc0 : l0.length ≤ c0) (h : verditerref06_times.f k l0 a1 = some r) :
    Calls Try.prog 79 #[.slice A0 l0.length c0, .int .i64 a1] w fun e w' => ∃ v0_ : Value, e = .returned (v0_) ∧ Kd.R (Kd.int .i64) 3 w' w.heap.size (fun _ => True) v0_ r ∧ Below w.heap.size w w' := by
  have HR0 := Aside0.mk hr0
  have HC0 := Aside0.mk hc0
  clear hr0 hc0
  have HB := Aside0.mk (Below.refl w.heap.size w)
  have H : (verditerref06_times.l0 k l0 a1 ([] : List Int) 0) = some r := h
  clear h
  have H' := Aside0.mk H
  clear H
  go_enter Try.func79, Try.ntmps79
  go_wp2
  go_loopg [5, 6] k (fun kq v5 v6 w' => ∃ (x5_1 : List Int) (x6_1 : Int), v6 = .int .i64 x6_1 ∧ Aside0 (verditerref06_times.l0 kq l0 a1 x5_1 x6_1 = some r) ∧ Aside0 (kq ≤ k) ∧ Aside0 (Kd.R (Kd.int .i64) 3 w' w.heap.size (fun _ => True) v5 x5_1) ∧ Aside0 (Below w.heap.size w w'))
  case atStart => exact ⟨(([] : List Int)), (0), (by first | rfl | (simp; done) | (simp [*]; done)), H', ⟨Nat.le_refl _⟩, ⟨by first | exact Kd.R_nil _ _ _ _ _ | exact Kd.N_nil _ _ _ _ _ | exact Kd.V_nil _ _ _ _ _ | exact Kd.Q_nil _ _ _ _ _ | exact Kd.S_nil _ _ _ _ _⟩, ⟨by repeat (first | (with_reducible first | exact HB.out | apply below_alloc | apply pw_below_drewN | apply below_drew1) | exact HB.out)⟩⟩
  case round =>
    clear H'
    try clear p2
    obtain ⟨x5_1, x6_1, rfl, HA, HK1, HO_5, HB⟩ := hrel
    cases gk with
    | zero => exact absurd HA.out (by simp [verditerref06_times.l0])
    | succ k1 =>
      have H := HA.out
      clear HA
      simp only [verditerref06_times.l0] at H
      by_cases c3 : x6_1 < (l0.length : Int)
      · rw [if_pos c3] at H
        have c3b0 : decide (x6_1 < (l0.length : Int)) = true := decide_eq_true c3
        clear c3
        by_cases c4 : 0 ≤ x6_1
        · rw [if_pos c4] at H
          have c4b0 : decide (0 ≤ x6_1) = true := decide_eq_true c4
          clear c4
          by_cases c5 : x5_1.length < 17592186044416
          · rw [if_pos c5] at H
            have LMc5 := Aside0.mk c5
            clear c5
            obtain ⟨y197, hy197⟩ : ∃ y_ : List Int, y_ = (x5_1 ++ [wrap64 (a1 * (rd l0 x6_1))]) := ⟨_, rfl⟩
            replace H : (verditerref06_times.l0 k1 l0 a1 y197 (wrap64 (x6_1 + 1))) = some r := by first | (rw [hy197]; with_reducible exact H) | (have H2_ := (Option.bind_some _ _).symm.trans H; rw [hy197]; with_reducible exact H2_) | (have H2_ := (Option.bind_some _ _).symm.trans H; with_reducible exact H2_) | with_reducible exact H | (rw [hy197]; exact H) | exact H
            have Ny197 := Aside0.mk hy197
            clear hy197
            have H' := Aside0.mk H
            clear H
            have p196 : 0 ≤ (x6_1 : Int) := of_decide_eq_true (by first | (with_reducible assumption) | assumption)
            have q196 : x6_1 < (l0.length : Int) := of_decide_eq_true (by first | (with_reducible assumption) | assumption)
            obtain ⟨ad196, e196, hx196_0⟩ := Kd.at_int HR0.out x6_1 p196 q196
            cases e196
            replace hx196_0 := (HB.out.cell (World.block_lt_of_cell? w _ hx196_0)).trans hx196_0
            replace p196 := eq_true p196
            replace q196 := eq_true q196
            go_wp2_with (first | ((with_reducible refine gate_builtin (b := .append) (xs := #[.tmp 13, .tmp 20]) rfl ?_); at_builtin; refine Kd.R_append (Kd.int .i64) (w0 := w) w.heap.size rfl (.tmp 13) (.tmp 20) 43 3 (.int .i64 0) 8 rfl Try.underlying43 info3 rfl (by decide) (by omega) u5 x5_1 (wrap64 (a1 * (rd l0 x6_1))) [.int .i64 (wrap64 (a1 * (rd l0 x6_1)))] (fun _ => True) (fun _ => False) rfl rfl ?aP (fun _ hk => hk.elim) ?aF ?aO ?aB ?aS ?aL ?_; (case aP => exact rfl); (case aB => exact (by repeat (first | (with_reducible first | exact HB.out | apply below_alloc | apply pw_below_drewN | apply below_drew1) | exact HB.out))); (case aF => exact (fun _ _ => trivial)); (case aO => exact (by (with_reducible repeat (first | apply Kd.R_alloc | apply Kd.R_drewN | apply Kd.R_drew)); exact HO_5.out)); (case aS => exact (below_size (by repeat (first | (with_reducible first | exact HB.out | apply below_alloc | apply pw_below_drewN | apply below_drew1) | exact HB.out)))); (case aL => have := LMc5.out; omega); intro v198 w6 ho hb hg hat; rw [← Ny197.out] at ho; have n0_ := Aside0.mk (hb); have n1_ := Aside0.mk (ho); clear HB; clear HO_5; have HB := n0_; have HO199 := n1_; clear n0_ n1_; clear ho hb hg hat))
            go_roundg k1
            case measure => have := HK1.out; omega
            case rel => exact ⟨(y197), (wrap64 (x6_1 + 1)), (by first | rfl | (simp; done) | (simp [*]; done)), H', ⟨by have := HK1.out; omega⟩, ⟨by (with_reducible repeat (first | apply Kd.R_alloc | apply Kd.R_drewN | apply Kd.R_drew)); exact HO199.out⟩, ⟨by repeat (first | (with_reducible first | exact HB.out | apply below_alloc | apply pw_below_drewN | apply below_drew1) | exact HB.out)⟩⟩
          · rw [if_neg c5] at H
            exact absurd H (by simp)
        · rw [if_neg c4] at H
          exact absurd H (by simp)
      · rw [if_neg c3] at H
        have c3b0 : decide (x6_1 < (l0.length : Int)) = false := decide_eq_false c3
        clear c3
        obtain rfl := Option.some.inj H
        go_wp2
        go_ret
        exact ⟨_, by first | rfl | (simp [errW_none, errW_some] <;> rfl) | (simp [*, errW_none, errW_some] <;> rfl), by (with_reducible repeat (first | apply Kd.R_alloc | apply Kd.R_drewN | apply Kd.R_drew)); exact HO_5.out, by repeat (first | (with_reducible first | exact HB.out | apply below_alloc | apply pw_below_drewN | apply below_drew1) | exact HB.out)⟩

end Go.Proofs.Ytdbeochifofdoaa.X
end

section
-- Written by a program of this session (wip/hook.py, which runs the kit's print.py with contracts proved by hand). Not trusted: Lean checks it.
namespace Go.Proofs.Ytdbeochifofdoaa.X
open Go.RowKit Go.Proofs.YtdbeochifofdoaaW.PrintWords Go.Proofs.YtdbeochifofdoaaW.PrintLast Go.Proofs.YtdbeochifofdoaaW.PrintMore
attribute [local go_sem] max2_int min2_int max_two min_two max_three min_three max_four min_four   -- for this text's walks alone
set_option linter.unusedVariables false
set_option linter.unusedSimpArgs false

/-! ### verditerref06_isBlank: function 81 -/
def verditerref06_isBlank.l0 : Nat → List Int → Int → Option (Bool)
  | 0, _, _ => none
  | k + 1, x0, x3 => if x3 < (x0.length : Int) then (if 0 ≤ x3 then (if (rd x0 x3) = 0 then (verditerref06_isBlank.l0 k x0 (wrap64 (x3 + 1))) else (some false)) else (none)) else (some true)
def verditerref06_isBlank.f (k : Nat) (l0 : List Int) : Option (Bool) := verditerref06_isBlank.l0 k l0 0
theorem verditerref06_isBlank.mono_l : ∀ k, (∀ y0 y1, LeO (verditerref06_isBlank.l0 k y0 y1) (verditerref06_isBlank.l0 (k + 1) y0 y1))
  | 0 => fun _ _ r h => by simp [verditerref06_isBlank.l0] at h
  | k + 1 => by
    have ih0 := verditerref06_isBlank.mono_l k
    · intro y0 y1
      unfold verditerref06_isBlank.l0
      repeat' first
      | (with_reducible exact ih0 _ _)
      | (with_reducible exact LeO.refl _)
      | (with_reducible exact LeO.none _)
      | (with_reducible refine LeO.ite ?_ ?_)
      | (with_reducible refine LeO.bind ?_ (fun _ => ?_))
      | exact ih0 _ _
      | exact LeO.none _
      | refine LeO.ite ?_ ?_
      | refine LeO.bind ?_ (fun _ => ?_)
theorem verditerref06_isBlank.mono : ∀ a0 k, LeO (verditerref06_isBlank.f k a0) (verditerref06_isBlank.f (k + 1) a0) := by
  intro a0 k
  have ih0 := verditerref06_isBlank.mono_l k
  unfold verditerref06_isBlank.f
  repeat' first
      | (with_reducible exact ih0 _ _)
      | (with_reducible exact LeO.refl _)
      | (with_reducible exact LeO.none _)
      | (with_reducible refine LeO.ite ?_ ?_)
      | (with_reducible refine LeO.bind ?_ (fun _ => ?_))
      | exact ih0 _ _
      | exact LeO.none _
      | refine LeO.ite ?_ ?_
      | refine LeO.bind ?_ (fun _ => ?_)
set_option maxHeartbeats 8000000 in
set_option maxRecDepth 100000 in
theorem verditerref06_isBlank.calls (k : Nat) (A0 : Option Addr) (c0 : Nat) (l0 : List Int) (r : Bool) (w : World) (hr0 : Kd.C (Kd.int .i64) w A0 l0.length l0) (hc0 : l0.length ≤ c0) (h : verditerref06_isBlank.f k l0 = some r) :
    Calls Try.prog 81 #[.slice A0 l0.length c0] w fun e w' => e = .returned (.bool r) ∧ Drawn0 w w' := by
  have HR0 := Aside0.mk hr0
  have HC0 := Aside0.mk hc0
  clear hr0 hc0
  have H : (verditerref06_isBlank.l0 k l0 0) = some r := h
  clear h
  have H' := Aside0.mk H
  clear H
  go_enter Try.func81, Try.ntmps81
  go_wp2
  go_loopg [3] k (fun kq v3 w' => ∃ (x3_1 : Int), v3 = .int .i64 x3_1 ∧ Aside0 (verditerref06_isBlank.l0 kq l0 x3_1 = some r) ∧ Aside0 (kq ≤ k) ∧ Drawn0 w w')
  case atStart => exact ⟨(0), (by first | rfl | (simp; done) | (simp [*]; done)), H', ⟨Nat.le_refl _⟩, by repeat (first | exact Drawn0.refl _ | apply Drawn0.step)⟩
  case round =>
    clear H'
    obtain ⟨x3_1, rfl, HA, HK1, ⟨m1, rfl⟩⟩ := hrel
    cases gk with
    | zero => exact absurd HA.out (by simp [verditerref06_isBlank.l0])
    | succ k1 =>
      have H := HA.out
      clear HA
      simp only [verditerref06_isBlank.l0] at H
      by_cases c2 : x3_1 < (l0.length : Int)
      · rw [if_pos c2] at H
        have c2b0 : decide (x3_1 < (l0.length : Int)) = true := decide_eq_true c2
        clear c2
        by_cases c3 : 0 ≤ x3_1
        · rw [if_pos c3] at H
          have c3b0 : decide (0 ≤ x3_1) = true := decide_eq_true c3
          clear c3
          by_cases c4 : (rd l0 x3_1) = 0
          · rw [if_pos c4] at H
            have c4b0 : ((rd l0 x3_1) == 0) = true := beq_iff_eq.mpr c4
            have c4b1 : ((rd l0 x3_1) != 0) = false := bne_eq_false_iff_eq.mpr c4
            clear c4
            have H' := Aside0.mk H
            clear H
            have p218 : 0 ≤ (x3_1 : Int) := of_decide_eq_true (by first | (with_reducible assumption) | assumption)
            have q218 : x3_1 < (l0.length : Int) := of_decide_eq_true (by first | (with_reducible assumption) | assumption)
            obtain ⟨ad218, e218, hx218_0⟩ := Kd.at_int HR0.out x3_1 p218 q218
            cases e218
            replace p218 := eq_true p218
            replace q218 := eq_true q218
            go_wp2
            go_roundg k1
            case measure => have := HK1.out; omega
            case rel => exact ⟨(wrap64 (x3_1 + 1)), (by first | rfl | (simp; done) | (simp [*]; done)), H', ⟨by have := HK1.out; omega⟩, by repeat (first | exact Drawn0.refl _ | apply Drawn0.step)⟩
          · rw [if_neg c4] at H
            have c4b0 : ((rd l0 x3_1) == 0) = false := beq_eq_false_iff_ne.mpr c4
            have c4b1 : ((rd l0 x3_1) != 0) = true := bne_iff_ne.mpr c4
            obtain rfl := Option.some.inj H
            have p218 : 0 ≤ (x3_1 : Int) := of_decide_eq_true (by first | (with_reducible assumption) | assumption)
            have q218 : x3_1 < (l0.length : Int) := of_decide_eq_true (by first | (with_reducible assumption) | assumption)
            obtain ⟨ad218, e218, hx218_0⟩ := Kd.at_int HR0.out x3_1 p218 q218
            cases e218
            replace p218 := eq_true p218
            replace q218 := eq_true q218
            go_wp2
            go_ret
            exact ⟨by first | rfl | (simp; done) | (simp [*]; done), by repeat (first | exact Drawn0.refl _ | apply Drawn0.step)⟩
        · rw [if_neg c3] at H
          exact absurd H (by simp)
      · rw [if_neg c2] at H
        have c2b0 : decide (x3_1 < (l0.length : Int)) = false := decide_eq_false c2
        clear c2
        obtain rfl := Option.some.inj H
        go_wp2
        go_ret
        exact ⟨by first | rfl | (simp; done) | (simp [*]; done), by repeat (first | exact Drawn0.refl _ | apply Drawn0.step)⟩

end Go.Proofs.Ytdbeochifofdoaa.X
end
