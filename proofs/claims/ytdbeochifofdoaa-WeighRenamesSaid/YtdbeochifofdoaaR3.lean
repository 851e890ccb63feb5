/- Rename gives the lots other numbers, for all plans and lists, and the plan tells as well.
Its conditions: none beyond the statement's own. Part 4 of 5 of the proof. -/
import Derived.Handy
import Derived.WalkSpells
import Derived.Shelf.Abstract
import Derived.ChangeArms
import Derived.ChangeSlices
import Derived.SizedLaws
import Derived.Test.YtdbeochifofdoaaRz0
import Derived.Test.YtdbeochifofdoaaR2
section
-- Written by a program of this session (wip/hook.py, which runs the kit's print.py with contracts proved by hand). Not trusted: Lean checks it.
namespace Go.Proofs.Ytdbeochifofdoaa.X
open Go.RowKit Go.Proofs.YtdbeochifofdoaaW.PrintWords Go.Proofs.YtdbeochifofdoaaW.PrintLast Go.Proofs.YtdbeochifofdoaaW.PrintMore
attribute [local go_sem] max2_int min2_int max_two min_two max_three min_three max_four min_four   -- for this text's walks alone
set_option linter.unusedVariables false
set_option linter.unusedSimpArgs false

/-! ### slices_insertionSortOrdered_int: function 125 -/
mutual
def slices_insertionSortOrdered_int.l0 : Nat → List Int → Int → Int → Int → Option (List Int)
  | 0, _, _, _, _ => none
  | k + 1, x0, x1, x2, x6 => if x6 < x2 then (slices_insertionSortOrdered_int.l1 k x0 x1 x2 x6 x6) else (some x0)
def slices_insertionSortOrdered_int.l1 : Nat → List Int → Int → Int → Int → Int → Option (List Int)
  | 0, _, _, _, _, _ => none
  | k + 1, x0, x1, x2, x6, x7 => if x7 > x1 then (if 0 ≤ x7 then (if x7 < (x0.length : Int) then (if 0 ≤ (wrap64 (x7 - 1)) then (if (wrap64 (x7 - 1)) < (x0.length : Int) then ((cmp_Less_int.f (rd x0 x7) (rd x0 (wrap64 (x7 - 1)))).bind fun t713 => (if t713 = true then (slices_insertionSortOrdered_int.l1 k ((x0.set (x7 : Int).toNat (rd x0 (wrap64 (x7 - 1)))).set ((wrap64 (x7 - 1)) : Int).toNat (rd x0 x7)) x1 x2 x6 (wrap64 (x7 - 1))) else (slices_insertionSortOrdered_int.l0 k x0 x1 x2 (wrap64 (x6 + 1))))) else (none)) else (none)) else (none)) else (none)) else (slices_insertionSortOrdered_int.l0 k x0 x1 x2 (wrap64 (x6 + 1)))
end
def slices_insertionSortOrdered_int.f (k : Nat) (l0 : List Int) (a1 : Int) (a2 : Int) : Option (List Int) := slices_insertionSortOrdered_int.l0 k l0 a1 a2 (wrap64 (a1 + 1))
def slices_insertionSortOrdered_int.T4 : Bool × List (List Nat × List Nat) := (true, [([], []), ([], []), ([0, 1], [0, 1]), ([2], [2]), ([3], [3]), ([3], [3]), ([4, 5, 3], [3, 4, 5]), ([6, 3], [3, 6]), ([3], [3]), ([3], [3]), ([9, 3], [3, 9]), ([8, 10, 3], [3, 8, 10]), ([11, 3], [3, 11]), ([7, 12, 3, 3], [3, 7, 12]), ([3, 13], [3, 13])])
def slices_insertionSortOrdered_int.B4 : List Nat := [0, 0, 3, 7, 15, 15, 63, 127, 15, 15, 527, 1807, 3855, 8191, 16383]
theorem slices_insertionSortOrdered_int.tab4 : rtab .any (opsOf Try.f125 4) = slices_insertionSortOrdered_int.T4 := by kernel_rfl
theorem slices_insertionSortOrdered_int.bits4 : waitsOk slices_insertionSortOrdered_int.T4.2 slices_insertionSortOrdered_int.B4 = true := by kernel_rfl
def slices_insertionSortOrdered_int.T6 : Bool × List (List Nat × List Nat) := (true, [([], []), ([], []), ([], []), ([], []), ([3], [3]), ([], []), ([], []), ([6], [6]), ([5, 7], [5, 7]), ([8], [8]), ([], []), ([], []), ([10, 11], [10, 11]), ([12], [12]), ([0, 1, 0, 1, 5, 6, 7, 8, 9, 13], [0, 1]), ([14, 9, 0, 1, 5, 6, 7, 8, 9, 13], [9, 14]), ([2, 4, 0, 1, 2, 3, 4, 5, 6, 7, 8, 9, 10, 11, 12, 13, 14, 15], [2, 4]), ([16, 13, 15, 0, 1, 2, 3, 4, 5, 6, 7, 8, 9, 10, 11, 12, 13, 14, 15], [13, 16])])
def slices_insertionSortOrdered_int.B6 : List Nat := [0, 0, 0, 0, 8, 0, 0, 64, 224, 480, 0, 0, 3072, 7168, 16355, 32739, 65535, 131071]
theorem slices_insertionSortOrdered_int.tab6 : rtab .any (opsOf Try.f125 6) = slices_insertionSortOrdered_int.T6 := by kernel_rfl
theorem slices_insertionSortOrdered_int.bits6 : waitsOk slices_insertionSortOrdered_int.T6.2 slices_insertionSortOrdered_int.B6 = true := by kernel_rfl
set_option maxHeartbeats 8000000 in
set_option maxRecDepth 100000 in
theorem slices_insertionSortOrdered_int.calls (k : Nat) (P0_ : Nat → Prop) (u9000_ : Value) (l0 : List Int) (a1 : Int) (a2 : Int) (r : List Int) (w0 w : World) (hB : Below w0.heap.size w0 w) (ho0 : Kd.R (Kd.int .i64) 3 w w0.heap.size P0_ u9000_ l0) (h : slices_insertionSortOrdered_int.f k l0 a1 a2 = some r) :
    Calls Try.prog 125 #[u9000_, .int .i64 a1, .int .i64 a2] w fun e w' => e = .returned (.tuple #[]) ∧ Kd.R (Kd.int .i64) 3 w' w0.heap.size (fun k_ => (P0_ k_ ∨ w.heap.size ≤ k_)) u9000_ r ∧ Below w0.heap.size w0 w' ∧ Kept w w' (fun k_ => P0_ k_) := by
  have HO0 := Aside0.mk (show Kd.R (Kd.int .i64) 3 w w0.heap.size (fun k_ => (P0_ k_ ∨ w.heap.size ≤ k_)) u9000_ l0 from Kd.R_mono ho0 (fun k_ hk => (.inl hk)))
  have HK := Aside0.mk (Kept.refl w (fun k_ => P0_ k_))
  have HW0 := Aside0.mk hB.size
  have HB := Aside0.mk hB
  clear hB
  have H : (slices_insertionSortOrdered_int.l0 k l0 a1 a2 (wrap64 (a1 + 1))) = some r := h
  clear h
  have H' := Aside0.mk H
  clear H
  go_enter Try.func125, Try.ntmps125
  go_wp2
  go_loopg [6] k (fun kq v6 w' => ∃ (x0_1 : List Int) (x6_1 : Int), v6 = .int .i64 x6_1 ∧ Aside0 (slices_insertionSortOrdered_int.l0 kq x0_1 a1 a2 x6_1 = some r) ∧ Aside0 (kq ≤ k) ∧ Aside0 (Kd.R (Kd.int .i64) 3 w' w0.heap.size (fun k_ => (P0_ k_ ∨ w.heap.size ≤ k_)) u9000_ x0_1) ∧ Aside0 (Kept w w' (fun k_ => P0_ k_)) ∧ Aside0 (Below w0.heap.size w0 w'))
  case atStart => exact ⟨(l0), (wrap64 (a1 + 1)), (by first | rfl | (simp; done) | (simp [*]; done)), H', ⟨Nat.le_refl _⟩, ⟨by (with_reducible repeat (first | apply Kd.R_alloc | apply Kd.R_drewN | apply Kd.R_drew)); exact HO0.out⟩, ⟨by repeat (first | (with_reducible first | exact HK.out | apply Kept.alloc | apply Kept.drewN | apply Kept.drew) | exact HK.out)⟩, ⟨by repeat (first | (with_reducible first | exact HB.out | apply below_alloc | apply pw_below_drewN | apply below_drew1) | exact HB.out)⟩⟩
  case round =>
    clear H'
    try clear c1
    try clear p2
    obtain ⟨x0_1, x6_1, rfl, HA, HK1, HO_0, HK, HB⟩ := hrel
    cases gk with
    | zero => exact absurd HA.out (by simp [slices_insertionSortOrdered_int.l0])
    | succ k1 =>
      have H := HA.out
      clear HA
      simp only [slices_insertionSortOrdered_int.l0] at H
      by_cases c4 : x6_1 < a2
      · rw [if_pos c4] at H
        have c4b0 : decide (x6_1 < a2) = true := decide_eq_true c4
        clear c4
        have H' := Aside0.mk H
        clear H
        go_wp2
        go_loopg [7] k1 (fun kq v7 w' => ∃ (x0_2 : List Int) (x7_2 : Int), v7 = .int .i64 x7_2 ∧ Aside0 (slices_insertionSortOrdered_int.l1 kq x0_2 a1 a2 x6_1 x7_2 = some r) ∧ Aside0 (kq ≤ k1) ∧ Aside0 (Kd.R (Kd.int .i64) 3 w' w0.heap.size (fun k_ => (P0_ k_ ∨ w.heap.size ≤ k_)) u9000_ x0_2) ∧ Aside0 (Kept w w' (fun k_ => P0_ k_)) ∧ Aside0 (Below w0.heap.size w0 w'))
        case atStart => exact ⟨(x0_1), (x6_1), (by first | rfl | (simp; done) | (simp [*]; done)), H', ⟨Nat.le_refl _⟩, ⟨by (with_reducible repeat (first | apply Kd.R_alloc | apply Kd.R_drewN | apply Kd.R_drew)); exact HO_0.out⟩, ⟨by repeat (first | (with_reducible first | exact HK.out | apply Kept.alloc | apply Kept.drewN | apply Kept.drew) | exact HK.out)⟩, ⟨by repeat (first | (with_reducible first | exact HB.out | apply below_alloc | apply pw_below_drewN | apply below_drew1) | exact HB.out)⟩⟩
        case round =>
          clear H'
          try clear c1
          try clear p2
          try clear c4
          try clear c4b0
          try clear p2
          obtain ⟨x0_2, x7_2, rfl, HA, HK2, HO_0, HK, HB⟩ := hrel
          cases gk with
          | zero => exact absurd HA.out (by simp [slices_insertionSortOrdered_int.l1])
          | succ k2 =>
            have H := HA.out
            clear HA
            simp only [slices_insertionSortOrdered_int.l1] at H
            by_cases c5 : x7_2 > a1
            · rw [if_pos c5] at H
              have c5b0 : decide (a1 < x7_2) = true := decide_eq_true c5
              clear c5
              by_cases c6 : 0 ≤ x7_2
              · rw [if_pos c6] at H
                have c6b0 : decide (0 ≤ x7_2) = true := decide_eq_true c6
                clear c6
                by_cases c7 : x7_2 < (x0_2.length : Int)
                · rw [if_pos c7] at H
                  have c7b0 : decide (x7_2 < (x0_2.length : Int)) = true := decide_eq_true c7
                  clear c7
                  obtain ⟨ji8, hji8⟩ : ∃ j_ : Int, (wrap64 (x7_2 - 1)) = j_ := ⟨_, rfl⟩
                  replace H : (if 0 ≤ (ji8) then (if (ji8) < (x0_2.length : Int) then ((cmp_Less_int.f (rd x0_2 x7_2) (rd x0_2 (ji8))).bind fun t713 => (if t713 = true then (slices_insertionSortOrdered_int.l1 k2 ((x0_2.set (x7_2 : Int).toNat (rd x0_2 (ji8))).set ((ji8) : Int).toNat (rd x0_2 x7_2)) a1 a2 x6_1 ji8) else (slices_insertionSortOrdered_int.l0 k2 x0_2 a1 a2 (wrap64 (x6_1 + 1))))) else (none)) else (none)) = some r := by first | (rw [hji8] at H; exact H) | (simp only [hji8] at H ⊢; exact H)
                  have hji8w : (IntKind.i64.wrap (x7_2 - 1)) = ji8 := (i64_w _).trans hji8
                  by_cases c9 : 0 ≤ (ji8)
                  · rw [if_pos c9] at H
                    have c9b0 : decide (0 ≤ (ji8)) = true := decide_eq_true c9
                    clear c9
                    by_cases c10 : (ji8) < (x0_2.length : Int)
                    · rw [if_pos c10] at H
                      have c10b0 : decide ((ji8) < (x0_2.length : Int)) = true := decide_eq_true c10
                      clear c10
                      replace H := Option.bind_eq_some_iff.mp H
                      obtain ⟨t713, A110, H⟩ := H
                      replace H : (if t713 = true then (slices_insertionSortOrdered_int.l1 k2 ((x0_2.set (x7_2 : Int).toNat (rd x0_2 (ji8))).set ((ji8) : Int).toNat (rd x0_2 x7_2)) a1 a2 x6_1 ji8) else (slices_insertionSortOrdered_int.l0 k2 x0_2 a1 a2 (wrap64 (x6_1 + 1)))) = some r := H
                      have A11 := Aside0.mk A110
                      clear A110
                      by_cases c12 : t713 = true
                      · subst c12
                        have H1 : (slices_insertionSortOrdered_int.l1 k2 ((x0_2.set (x7_2 : Int).toNat (rd x0_2 (ji8))).set ((ji8) : Int).toNat (rd x0_2 x7_2)) a1 a2 x6_1 ji8) = some r := by rw [if_pos rfl] at H; exact H
                        clear H
                        have H := H1
                        clear H1
                        obtain ⟨y716, hy716⟩ : ∃ y_ : List Int, y_ = (x0_2.set (x7_2 : Int).toNat (rd x0_2 (ji8))) := ⟨_, rfl⟩
                        replace H : (slices_insertionSortOrdered_int.l1 k2 (y716.set ((ji8) : Int).toNat (rd x0_2 x7_2)) a1 a2 x6_1 ji8) = some r := by first | (rw [hy716]; with_reducible exact H) | (have H2_ := (Option.bind_some _ _).symm.trans H; rw [hy716]; with_reducible exact H2_) | (have H2_ := (Option.bind_some _ _).symm.trans H; with_reducible exact H2_) | with_reducible exact H | (rw [hy716]; exact H) | exact H
                        have Ny716 := Aside0.mk hy716
                        clear hy716
                        obtain ⟨y717, hy717⟩ : ∃ y_ : List Int, y_ = (y716.set ((ji8) : Int).toNat (rd x0_2 x7_2)) := ⟨_, rfl⟩
                        replace H : (slices_insertionSortOrdered_int.l1 k2 y717 a1 a2 x6_1 ji8) = some r := by first | (rw [hy717]; with_reducible exact H) | (have H2_ := (Option.bind_some _ _).symm.trans H; rw [hy717]; with_reducible exact H2_) | (have H2_ := (Option.bind_some _ _).symm.trans H; with_reducible exact H2_) | with_reducible exact H | (rw [hy717]; exact H) | exact H
                        have Ny717 := Aside0.mk hy717
                        clear hy717
                        have H' := Aside0.mk H
                        clear H
                        try go_wp2
                        have n0_ := Aside0.mk (Kd.R_drew HO_0.out)
                        have n1_ := Aside0.mk (Kept.drew HK.out)
                        have n2_ := Aside0.mk (below_drew1 HB.out)
                        clear HO_0
                        clear HK
                        clear HB
                        have HO_0 := n0_
                        have HK := n1_
                        have HB := n2_
                        clear n0_ n1_ n2_
                        obtain ⟨Ao16, co16, eo16⟩ := Kd.R_slice HO_0.out
                        (first | subst eo16 | (injection eo16 with f1_ f2_ f3_; have f4_ := f1_.symm; have f5_ := f3_.symm; clear f1_ f2_ f3_; subst f4_; subst f5_))
                        have p711 : 0 ≤ (x7_2 : Int) := of_decide_eq_true (by first | (with_reducible assumption) | assumption)
                        have q711 : x7_2 < (x0_2.length : Int) := of_decide_eq_true (by first | (with_reducible assumption) | assumption)
                        obtain ⟨ad711, e711, hx711_0⟩ := Kd.at_int (Kd.R_reads' HO_0.out).2.2 x7_2 p711 q711
                        cases e711
                        replace p711 := eq_true p711
                        replace q711 := eq_true q711
                        have p712 : 0 ≤ ((ji8) : Int) := of_decide_eq_true (by first | (with_reducible assumption) | assumption)
                        have q712 : (ji8) < (x0_2.length : Int) := of_decide_eq_true (by first | (with_reducible assumption) | assumption)
                        obtain ⟨ad712, e712, hx712_0⟩ := Kd.at_int (Kd.R_reads' HO_0.out).2.2 (ji8) p712 q712
                        obtain rfl : ad711 = ad712 := (by injection e712)
                        replace p712 := eq_true p712
                        replace q712 := eq_true q712
                        refine start_ (n := 15) (S := fun w' => w'.cell? (ad711.add (x7_2).toNat) = some (.int .i64 (rd x0_2 x7_2)) ∧ w'.cell? (ad711.add ((ji8)).toNat) = some (.int .i64 (rd x0_2 (ji8)))) (ds := []) #[false, false, false, false, false, false, false, false, false, false, false, false, false, false, false] (by kernel_rfl) rfl rfl ⟨hx711_0, hx712_0⟩ (fun hHeld => ?_); refine with_tabW slices_insertionSortOrdered_int.tab4 slices_insertionSortOrdered_int.bits4 (fun HT_ HW_ => ?_)
                        generalize wr.drew = w15 at HO_0 HK HB hx711_0 hx712_0 hHeld ⊢
                        refine pure_ (i := 0) (N := some 16) (v := ?_) (a' := ?_) #[true, false, false, false, false, false, false, false, false, false, false, false, false, false, false] rfl rfl (any_of HT_.out (by kernel_rfl)) (fun _ _ _ h => h) (Or.inl ⟨by rfl, ?_⟩) ?_ ?_
                        rotate_left
                        · intro w'
                          go_simp
                          with_reducible rfl
                        rotate_left
                        · simp only [Act.put, List.setIfInBounds_toArray, List.set_cons_zero, List.set_cons_succ, i64_w, i32_w]
                          rfl
                        refine pure_ (i := 1) (N := some 17) (v := ?_) (a' := ?_) #[true, true, false, false, false, false, false, false, false, false, false, false, false, false, false] rfl rfl (any_of HT_.out (by kernel_rfl)) (fun _ _ _ h => h) (Or.inl ⟨by rfl, ?_⟩) ?_ ?_
                        rotate_left
                        · intro w'
                          go_simp
                          with_reducible rfl
                        rotate_left
                        · simp only [Act.put, List.setIfInBounds_toArray, List.set_cons_zero, List.set_cons_succ, i64_w, i32_w]
                          rfl
                        refine pure_ (i := 2) (N := some 18) (v := ?_) (a' := ?_) #[true, true, true, false, false, false, false, false, false, false, false, false, false, false, false] rfl rfl (any_of HT_.out (by kernel_rfl)) (fun _ _ _ h => h) (Or.inl ⟨by rfl, ?_⟩) ?_ ?_
                        rotate_left
                        · intro w'
                          go_simp
                          with_reducible rfl
                        rotate_left
                        · simp only [Act.put, List.setIfInBounds_toArray, List.set_cons_zero, List.set_cons_succ, i64_w, i32_w]
                          rfl
                        refine pure_ (i := 3) (N := some 19) (v := ?_) (a' := ?_) #[true, true, true, true, false, false, false, false, false, false, false, false, false, false, false] rfl rfl (any_of HT_.out (by kernel_rfl)) (fun _ _ _ h => h) (Or.inl ⟨by rfl, ?_⟩) ?_ ?_
                        rotate_left
                        · intro w'
                          go_simp
                          with_reducible rfl
                        rotate_left
                        · simp only [Act.put, List.setIfInBounds_toArray, List.set_cons_zero, List.set_cons_succ, i64_w, i32_w]
                          rfl
                        refine pure_ (i := 4) (N := some 20) (v := ?_) (a' := ?_) #[true, true, true, true, true, false, false, false, false, false, false, false, false, false, false] rfl rfl (any_of HT_.out (by kernel_rfl)) (fun _ _ _ h => h) (Or.inl ⟨by rfl, ?_⟩) ?_ ?_
                        rotate_left
                        · intro w'
                          go_simp
                          with_reducible rfl
                        rotate_left
                        · simp only [Act.put, List.setIfInBounds_toArray, List.set_cons_zero, List.set_cons_succ, i64_w, i32_w]
                          rfl
                        refine pure_ (i := 5) (N := some 21) (v := ?_) (a' := ?_) #[true, true, true, true, true, true, false, false, false, false, false, false, false, false, false] rfl rfl (any_of HT_.out (by kernel_rfl)) (fun _ _ _ h => h) (Or.inl ⟨by rfl, ?_⟩) ?_ ?_
                        rotate_left
                        · intro w'
                          go_simp
                          with_reducible rfl
                        rotate_left
                        · simp only [Act.put, List.setIfInBounds_toArray, List.set_cons_zero, List.set_cons_succ, i64_w, i32_w]
                          rfl
                        refine pure_ (i := 6) (N := some 22) (v := ?_) (a' := ?_) #[true, true, true, true, true, true, true, false, false, false, false, false, false, false, false] rfl rfl (any_of HT_.out (by kernel_rfl)) (fun _ _ _ h => h) (Or.inl ⟨by rfl, ?_⟩) ?_ ?_
                        rotate_left
                        · intro w'
                          go_simp
                          with_reducible rfl
                        rotate_left
                        · simp only [Act.put, List.setIfInBounds_toArray, List.set_cons_zero, List.set_cons_succ, i64_w, i32_w]
                          rfl
                        refine pure_ (i := 8) (N := some 24) (v := ?_) (a' := ?_) #[true, true, true, true, true, true, true, false, true, false, false, false, false, false, false] rfl rfl (any_of HT_.out (by kernel_rfl)) (fun _ _ _ h => h) (Or.inl ⟨by rfl, ?_⟩) ?_ ?_
                        rotate_left
                        · intro w'
                          go_simp
                          with_reducible rfl
                        rotate_left
                        · simp only [Act.put, List.setIfInBounds_toArray, List.set_cons_zero, List.set_cons_succ, i64_w, i32_w]
                          rfl
                        refine pure_ (i := 9) (N := some 25) (v := ?_) (a' := ?_) #[true, true, true, true, true, true, true, false, true, true, false, false, false, false, false] rfl rfl (any_of HT_.out (by kernel_rfl)) (fun _ _ _ h => h) (Or.inl ⟨by rfl, ?_⟩) ?_ ?_
                        rotate_left
                        · intro w'
                          go_simp
                          with_reducible rfl
                        rotate_left
                        · simp only [Act.put, List.setIfInBounds_toArray, List.set_cons_zero, List.set_cons_succ, i64_w, i32_w]
                          rfl
                        refine pure_ (i := 10) (N := some 26) (v := ?_) (a' := ?_) #[true, true, true, true, true, true, true, false, true, true, true, false, false, false, false] rfl rfl (any_of HT_.out (by kernel_rfl)) (fun _ _ _ h => h) (Or.inl ⟨by rfl, ?_⟩) ?_ ?_
                        rotate_left
                        · intro w'
                          go_simp
                          with_reducible rfl
                        rotate_left
                        · simp only [Act.put, List.setIfInBounds_toArray, List.set_cons_zero, List.set_cons_succ, i64_w, i32_w]
                          rfl
                        refine pure_ (i := 11) (N := some 27) (v := ?_) (a' := ?_) #[true, true, true, true, true, true, true, false, true, true, true, true, false, false, false] rfl rfl (any_of HT_.out (by kernel_rfl)) (fun _ _ _ h => h) (Or.inl ⟨by rfl, ?_⟩) ?_ ?_
                        rotate_left
                        · intro w'
                          go_simp
                          with_reducible rfl
                        rotate_left
                        · simp only [Act.put, List.setIfInBounds_toArray, List.set_cons_zero, List.set_cons_succ, i64_w, i32_w]
                          rfl
                        refine take_ (i := 7) (N := some 23) (v := ?_) (a' := ?_) #[true, true, true, true, true, true, true, true, true, true, true, true, false, false, false] rfl rfl (take_ofW HT_.out HW_.out (by kernel_rfl)) (fun _ _ _ h => h) (Or.inl ⟨by rfl, ?_⟩) hHeld ?_ ?_
                        rotate_left
                        · rintro w' ⟨s0, s1⟩
                          go_simp
                          with_reducible rfl
                        rotate_left
                        · simp only [Act.put, List.setIfInBounds_toArray, List.set_cons_zero, List.set_cons_succ, i64_w, i32_w]
                          rfl
                        refine take_ (i := 12) (N := some 28) (v := ?_) (a' := ?_) #[true, true, true, true, true, true, true, true, true, true, true, true, true, false, false] rfl rfl (take_ofW HT_.out HW_.out (by kernel_rfl)) (fun _ _ _ h => h) (Or.inl ⟨by rfl, ?_⟩) hHeld ?_ ?_
                        rotate_left
                        · rintro w' ⟨s0, s1⟩
                          go_simp
                          with_reducible rfl
                        rotate_left
                        · simp only [Act.put, List.setIfInBounds_toArray, List.set_cons_zero, List.set_cons_succ, i64_w, i32_w]
                          rfl
                        refine one_ (i := 13) (N := some 29) #[true, true, true, true, true, true, true, true, true, true, true, true, true, true, false] rfl rfl (one_of HT_.out (by kernel_rfl)) (by decide) (fun K hK => ?_)
                        refine goes_ Try.func131 (by kernel_rfl) rfl #[.int .i64 (rd x0_2 x7_2), .int .i64 (rd x0_2 (ji8))] (by rfl) rfl rfl (by (try simp only [List.map_toArray, List.map_cons, List.map_nil]); first | done | (simp only [hji8]; rfl) | rfl | (simp only [List.length_drop, List.length_take]; rfl)) ?_
                        with_reducible refine (cmp_Less_int.calls (rd x0_2 x7_2) (rd x0_2 (ji8)) true _ A11.out).mono ?_
                        rintro e w' ⟨rfl, ⟨nd, rfl⟩⟩
                        refine ⟨_, rfl, ?_⟩
                        refine hK.out _ _ ⟨hHeld.1, hHeld.2⟩ (fun hHeld => ?_)
                        clear hK K
                        refine norm_ (a' := ?_) ?_ ?_
                        rotate_left
                        · show Act.put _ (some 29) _ = _
                          simp only [Act.put, List.setIfInBounds_toArray, List.set_cons_zero, List.set_cons_succ, i64_w, i32_w]
                          rfl
                        refine pure_ (i := 14) (N := some 30) (v := ?_) (a' := ?_) #[true, true, true, true, true, true, true, true, true, true, true, true, true, true, true] rfl rfl (any_of HT_.out (by kernel_rfl)) (fun _ _ _ h => h) (Or.inl ⟨by rfl, ?_⟩) ?_ ?_
                        rotate_left
                        · intro w'
                          go_simp
                          with_reducible rfl
                        rotate_left
                        · simp only [Act.put, List.setIfInBounds_toArray, List.set_cons_zero, List.set_cons_succ, i64_w, i32_w]
                          rfl
                        refine done_ (done_of HT_.out (by kernel_rfl)) ?_
                        try go_wp2
                        (try (rw [drewN_self w15]; generalize hq_ : World.drewN w15 _ = w15; have n0_ : Aside0 (Kd.R (Kd.int .i64) 3 w15 w0.heap.size (fun k_ => (P0_ k_ ∨ w.heap.size ≤ k_)) (.slice (some ad711) x0_2.length co16) x0_2) := ⟨by rw [← hq_]; exact (by (with_reducible repeat (first | apply Kd.R_alloc | apply Kd.R_drewN | apply Kd.R_drew)); exact HO_0.out)⟩; have n1_ : Aside0 (Kept w w15 (fun k_ => P0_ k_)) := ⟨by rw [← hq_]; exact (by repeat (first | (with_reducible first | exact HK.out | apply Kept.alloc | apply Kept.drewN | apply Kept.drew) | exact HK.out))⟩; have n2_ : Aside0 (Below w0.heap.size w0 w15) := ⟨by rw [← hq_]; exact (by repeat (first | (with_reducible first | exact HB.out | apply below_alloc | apply pw_below_drewN | apply below_drew1) | exact HB.out))⟩; clear HO_0 HK HB hq_; have HO_0 := n0_; have HK := n1_; have HB := n2_; clear n0_ n1_ n2_))
                        have n0_ := Aside0.mk (Kd.R_drew HO_0.out)
                        have n1_ := Aside0.mk (Kept.drew HK.out)
                        have n2_ := Aside0.mk (below_drew1 HB.out)
                        clear HO_0
                        clear HK
                        clear HB
                        have HO_0 := n0_
                        have HK := n1_
                        have HB := n2_
                        clear n0_ n1_ n2_
                        have p714 : 0 ≤ ((ji8) : Int) := of_decide_eq_true (by first | (with_reducible assumption) | assumption)
                        have q714 : (ji8) < (x0_2.length : Int) := of_decide_eq_true (by first | (with_reducible assumption) | assumption)
                        obtain ⟨ad714, e714, hx714_0⟩ := Kd.at_int (Kd.R_reads' HO_0.out).2.2 (ji8) p714 q714
                        obtain rfl : ad711 = ad714 := (by injection e714)
                        replace p714 := eq_true p714
                        replace q714 := eq_true q714
                        have p715 : 0 ≤ (x7_2 : Int) := of_decide_eq_true (by first | (with_reducible assumption) | assumption)
                        have q715 : x7_2 < (x0_2.length : Int) := of_decide_eq_true (by first | (with_reducible assumption) | assumption)
                        obtain ⟨ad715, e715, hx715_0⟩ := Kd.at_int (Kd.R_reads' HO_0.out).2.2 x7_2 p715 q715
                        obtain rfl : ad711 = ad715 := (by injection e715)
                        replace p715 := eq_true p715
                        replace q715 := eq_true q715
                        have p13 : 0 ≤ (x7_2 : Int) := of_decide_eq_true (by first | (with_reducible assumption) | assumption)
                        have q13 : (x7_2 : Int) < ((x0_2.length : Int) : Int) := of_decide_eq_true (by first | (with_reducible assumption) | assumption)
                        obtain ⟨go13, co13, eo13, gb13, gl13, cl13, HG13⟩ := Kd.R_form HO_0.out (by omega)
                        (first | cases eo13 | (injection eo13 with ea_ en_ ec_; (first | subst ea_ | (injection ea_ with ea_; subst ea_)); subst ec_; clear en_))
                        have GB13 := Aside0.mk gb13
                        have GG13 := Aside0.mk HG13
                        clear gb13 gl13 HG13
                        have HMgo13 := Aside0.mk (show (P0_ go13 ∨ w.heap.size ≤ go13) from (HO_0.out.1 _ rfl))
                        (first | simp only [add_plain] at hx711_0 | skip)
                        (first | simp only [add_plain] at hx712_0 | skip)
                        (first | simp only [add_plain] at hx714_0 | skip)
                        (first | simp only [add_plain] at hx715_0 | skip)
                        obtain ⟨hx13_0, hf13_0⟩ := Kd.R_celln 0 HO_0.out (x7_2 : Int) p13 q13
                        replace p13 := eq_true p13
                        replace q13 := eq_true q13
                        have HP18 := Kd.R_putn HO_0.out (x7_2 : Int) (rd x0_2 (ji8))
                        rw [← Ny716.out] at HP18
                        have HQ18 := Aside0.mk HP18
                        clear HP18
                        have p14 : 0 ≤ ((ji8) : Int) := of_decide_eq_true (by first | (with_reducible assumption) | assumption)
                        have q14 : ((ji8) : Int) < ((x0_2.length : Int) : Int) := of_decide_eq_true (by first | (with_reducible assumption) | assumption)
                        obtain ⟨hx14_0, hf14_0⟩ := Kd.R_celln 0 HQ18.out ((ji8) : Int) p14 q14
                        replace p14 := eq_true p14
                        replace q14 := eq_true q14
                        have HP19 := Kd.R_putn HQ18.out ((ji8) : Int) (rd x0_2 x7_2)
                        rw [← Ny717.out] at HP19
                        have HQ19 := Aside0.mk HP19
                        clear HP19
                        refine start_ (n := 18) (S := fun w' => w'.cell? ⟨go13, ((ji8)).toNat, none⟩ = some (.int .i64 (rd x0_2 (ji8))) ∧ w'.cell? ⟨go13, (x7_2).toNat, none⟩ = some (.int .i64 (rd x0_2 x7_2))) (ds := [15, 17]) #[false, false, false, false, false, false, false, false, false, false, false, false, false, false, false, false, false, false] (by kernel_rfl) rfl rfl ⟨hx714_0, hx715_0⟩ (fun hHeld => ?_); refine with_tabW slices_insertionSortOrdered_int.tab6 slices_insertionSortOrdered_int.bits6 (fun HT_ HW_ => ?_)
                        generalize w15.drew = w17 at HO_0 HK HB GG13 HQ18 HQ19 hf13_0 hf14_0 hx13_0 hx14_0 hx711_0 hx712_0 hx714_0 hx715_0 hHeld ⊢
                        refine pure_ (i := 0) (N := some 33) (v := ?_) (a' := ?_) #[true, false, false, false, false, false, false, false, false, false, false, false, false, false, false, false, false, false] rfl rfl (any_of HT_.out (by kernel_rfl)) (fun _ _ _ h => h) (Or.inl ⟨by rfl, ?_⟩) ?_ ?_
                        rotate_left
                        · intro w'
                          go_simp
                          with_reducible rfl
                        rotate_left
                        · simp only [Act.put, List.setIfInBounds_toArray, List.set_cons_zero, List.set_cons_succ, i64_w, i32_w]
                          rfl
                        refine pure_ (i := 1) (N := some 34) (v := ?_) (a' := ?_) #[true, true, false, false, false, false, false, false, false, false, false, false, false, false, false, false, false, false] rfl rfl (any_of HT_.out (by kernel_rfl)) (fun _ _ _ h => h) (Or.inl ⟨by rfl, ?_⟩) ?_ ?_
                        rotate_left
                        · intro w'
                          go_simp
                          with_reducible rfl
                        rotate_left
                        · simp only [Act.put, List.setIfInBounds_toArray, List.set_cons_zero, List.set_cons_succ, i64_w, i32_w]
                          rfl
                        refine pure_ (i := 2) (N := some 35) (v := ?_) (a' := ?_) #[true, true, true, false, false, false, false, false, false, false, false, false, false, false, false, false, false, false] rfl rfl (any_of HT_.out (by kernel_rfl)) (fun _ _ _ h => h) (Or.inl ⟨by rfl, ?_⟩) ?_ ?_
                        rotate_left
                        · intro w'
                          go_simp
                          with_reducible rfl
                        rotate_left
                        · simp only [Act.put, List.setIfInBounds_toArray, List.set_cons_zero, List.set_cons_succ, i64_w, i32_w]
                          rfl
                        refine pure_ (i := 3) (N := some 36) (v := ?_) (a' := ?_) #[true, true, true, true, false, false, false, false, false, false, false, false, false, false, false, false, false, false] rfl rfl (any_of HT_.out (by kernel_rfl)) (fun _ _ _ h => h) (Or.inl ⟨by rfl, ?_⟩) ?_ ?_
                        rotate_left
                        · intro w'
                          go_simp
                          with_reducible rfl
                        rotate_left
                        · simp only [Act.put, List.setIfInBounds_toArray, List.set_cons_zero, List.set_cons_succ, i64_w, i32_w]
                          rfl
                        refine pure_ (i := 4) (N := some 37) (v := ?_) (a' := ?_) #[true, true, true, true, true, false, false, false, false, false, false, false, false, false, false, false, false, false] rfl rfl (any_of HT_.out (by kernel_rfl)) (fun _ _ _ h => h) (Or.inl ⟨by rfl, ?_⟩) ?_ ?_
                        rotate_left
                        · intro w'
                          go_simp
                          with_reducible rfl
                        rotate_left
                        · simp only [Act.put, List.setIfInBounds_toArray, List.set_cons_zero, List.set_cons_succ, i64_w, i32_w]
                          rfl
                        refine pure_ (i := 5) (N := some 38) (v := ?_) (a' := ?_) #[true, true, true, true, true, true, false, false, false, false, false, false, false, false, false, false, false, false] rfl rfl (any_of HT_.out (by kernel_rfl)) (fun _ _ _ h => h) (Or.inl ⟨by rfl, ?_⟩) ?_ ?_
                        rotate_left
                        · intro w'
                          go_simp
                          with_reducible rfl
                        rotate_left
                        · simp only [Act.put, List.setIfInBounds_toArray, List.set_cons_zero, List.set_cons_succ, i64_w, i32_w]
                          rfl
                        refine pure_ (i := 6) (N := some 39) (v := ?_) (a' := ?_) #[true, true, true, true, true, true, true, false, false, false, false, false, false, false, false, false, false, false] rfl rfl (any_of HT_.out (by kernel_rfl)) (fun _ _ _ h => h) (Or.inl ⟨by rfl, ?_⟩) ?_ ?_
                        rotate_left
                        · intro w'
                          go_simp
                          with_reducible rfl
                        rotate_left
                        · simp only [Act.put, List.setIfInBounds_toArray, List.set_cons_zero, List.set_cons_succ, i64_w, i32_w]
                          rfl
                        refine pure_ (i := 7) (N := some 40) (v := ?_) (a' := ?_) #[true, true, true, true, true, true, true, true, false, false, false, false, false, false, false, false, false, false] rfl rfl (any_of HT_.out (by kernel_rfl)) (fun _ _ _ h => h) (Or.inl ⟨by rfl, ?_⟩) ?_ ?_
                        rotate_left
                        · intro w'
                          go_simp
                          with_reducible rfl
                        rotate_left
                        · simp only [Act.put, List.setIfInBounds_toArray, List.set_cons_zero, List.set_cons_succ, i64_w, i32_w]
                          rfl
                        refine pure_ (i := 8) (N := some 41) (v := ?_) (a' := ?_) #[true, true, true, true, true, true, true, true, true, false, false, false, false, false, false, false, false, false] rfl rfl (any_of HT_.out (by kernel_rfl)) (fun _ _ _ h => h) (Or.inl ⟨by rfl, ?_⟩) ?_ ?_
                        rotate_left
                        · intro w'
                          go_simp
                          with_reducible rfl
                        rotate_left
                        · simp only [Act.put, List.setIfInBounds_toArray, List.set_cons_zero, List.set_cons_succ, i64_w, i32_w]
                          rfl
                        refine pure_ (i := 10) (N := some 43) (v := ?_) (a' := ?_) #[true, true, true, true, true, true, true, true, true, false, true, false, false, false, false, false, false, false] rfl rfl (any_of HT_.out (by kernel_rfl)) (fun _ _ _ h => h) (Or.inl ⟨by rfl, ?_⟩) ?_ ?_
                        rotate_left
                        · intro w'
                          go_simp
                          with_reducible rfl
                        rotate_left
                        · simp only [Act.put, List.setIfInBounds_toArray, List.set_cons_zero, List.set_cons_succ, i64_w, i32_w]
                          rfl
                        refine pure_ (i := 11) (N := some 44) (v := ?_) (a' := ?_) #[true, true, true, true, true, true, true, true, true, false, true, true, false, false, false, false, false, false] rfl rfl (any_of HT_.out (by kernel_rfl)) (fun _ _ _ h => h) (Or.inl ⟨by rfl, ?_⟩) ?_ ?_
                        rotate_left
                        · intro w'
                          go_simp
                          with_reducible rfl
                        rotate_left
                        · simp only [Act.put, List.setIfInBounds_toArray, List.set_cons_zero, List.set_cons_succ, i64_w, i32_w]
                          rfl
                        refine pure_ (i := 12) (N := some 45) (v := ?_) (a' := ?_) #[true, true, true, true, true, true, true, true, true, false, true, true, true, false, false, false, false, false] rfl rfl (any_of HT_.out (by kernel_rfl)) (fun _ _ _ h => h) (Or.inl ⟨by rfl, ?_⟩) ?_ ?_
                        rotate_left
                        · intro w'
                          go_simp
                          with_reducible rfl
                        rotate_left
                        · simp only [Act.put, List.setIfInBounds_toArray, List.set_cons_zero, List.set_cons_succ, i64_w, i32_w]
                          rfl
                        refine take_ (i := 9) (N := some 42) (v := ?_) (a' := ?_) #[true, true, true, true, true, true, true, true, true, true, true, true, true, false, false, false, false, false] rfl rfl (take_ofW HT_.out HW_.out (by kernel_rfl)) (fun _ _ _ h => h) (Or.inl ⟨by rfl, ?_⟩) hHeld ?_ ?_
                        rotate_left
                        · rintro w' ⟨s0, s1⟩
                          go_simp
                          with_reducible rfl
                        rotate_left
                        · simp only [Act.put, List.setIfInBounds_toArray, List.set_cons_zero, List.set_cons_succ, i64_w, i32_w]
                          rfl
                        refine take_ (i := 13) (N := some 46) (v := ?_) (a' := ?_) #[true, true, true, true, true, true, true, true, true, true, true, true, true, true, false, false, false, false] rfl rfl (take_ofW HT_.out HW_.out (by kernel_rfl)) (fun _ _ _ h => h) (Or.inl ⟨by rfl, ?_⟩) hHeld ?_ ?_
                        rotate_left
                        · rintro w' ⟨s0, s1⟩
                          go_simp
                          with_reducible rfl
                        rotate_left
                        · simp only [Act.put, List.setIfInBounds_toArray, List.set_cons_zero, List.set_cons_succ, i64_w, i32_w]
                          rfl
                        refine pure_ (i := 14) (N := some 47) (v := ?_) (a' := ?_) #[true, true, true, true, true, true, true, true, true, true, true, true, true, true, true, false, false, false] rfl rfl (any_of HT_.out (by kernel_rfl)) (fun _ _ _ h => h) (Or.inl ⟨by rfl, ?_⟩) ?_ ?_
                        rotate_left
                        · intro w'
                          go_simp
                          with_reducible rfl
                        rotate_left
                        · simp only [Act.put, List.setIfInBounds_toArray, List.set_cons_zero, List.set_cons_succ, i64_w, i32_w]
                          rfl
                        refine last_ (i := 15) (N := none) #[true, true, true, true, true, true, true, true, true, true, true, true, true, true, true, true, false, false] rfl rfl (one_of HT_.out (by kernel_rfl)) (by decide) (fun K hK => ?_)
                        refine skip_ (w1 := ?_) (by rfl) rfl ?_ ?_
                        rotate_left
                        · go_simp
                          rfl
                        refine hK.out _ _ ?_
                        clear hK K
                        refine pure_ (i := 16) (N := some 48) (v := ?_) (a' := ?_) #[true, true, true, true, true, true, true, true, true, true, true, true, true, true, true, true, true, false] rfl rfl (any_of HT_.out (by kernel_rfl)) (fun _ _ _ h => h) (Or.inl ⟨by rfl, ?_⟩) ?_ ?_
                        rotate_left
                        · intro w'
                          go_simp
                          with_reducible rfl
                        rotate_left
                        · simp only [Act.put, List.setIfInBounds_toArray, List.set_cons_zero, List.set_cons_succ, i64_w, i32_w]
                          rfl
                        refine last_ (i := 17) (N := none) #[true, true, true, true, true, true, true, true, true, true, true, true, true, true, true, true, true, true] rfl rfl (one_of HT_.out (by kernel_rfl)) (by decide) (fun K hK => ?_)
                        refine skip_ (w1 := ?_) (by rfl) rfl ?_ ?_
                        rotate_left
                        · go_simp
                          rfl
                        refine hK.out _ _ ?_
                        clear hK K
                        refine done_ (done_of HT_.out (by kernel_rfl)) ?_
                        try go_wp2
                        go_roundg k2
                        case measure => have := HK1.out; have := HK2.out; omega
                        case rel => exact ⟨(y717), (ji8), (by first | rfl | (simp; done) | (simp only [← hji8] <;> (first | rfl | simp)) | (simp [*]; done)), H', ⟨by have := HK1.out; have := HK2.out; omega⟩, ⟨by (with_reducible repeat (first | apply Kd.R_alloc | apply Kd.R_drewN | apply Kd.R_drew)); exact HQ19.out⟩, ⟨by repeat (first | (with_reducible first | exact HK.out | apply Kept.alloc | apply Kept.drewN | apply Kept.drew | refine Kept.setCell ?_ HMgo13.out _ | refine Kept.setCell ?_ HMgo13.out _) | exact HK.out)⟩, ⟨by repeat (first | (with_reducible first | exact HB.out | apply below_alloc | apply pw_below_drewN | apply below_drew1 | refine below_set ?_ GB13.out | refine below_set ?_ GB13.out) | exact HB.out)⟩⟩
                      · replace c12 := Bool.eq_false_iff.mpr c12
                        subst c12
                        have H1 : (slices_insertionSortOrdered_int.l0 k2 x0_2 a1 a2 (wrap64 (x6_1 + 1))) = some r := by rw [if_neg (show ¬ (false = true) by decide)] at H; exact H
                        clear H
                        have H := H1
                        clear H1
                        have H' := Aside0.mk H
                        clear H
                        try go_wp2
                        have n0_ := Aside0.mk (Kd.R_drew HO_0.out)
                        have n1_ := Aside0.mk (Kept.drew HK.out)
                        have n2_ := Aside0.mk (below_drew1 HB.out)
                        clear HO_0
                        clear HK
                        clear HB
                        have HO_0 := n0_
                        have HK := n1_
                        have HB := n2_
                        clear n0_ n1_ n2_
                        obtain ⟨Ao21, co21, eo21⟩ := Kd.R_slice HO_0.out
                        (first | subst eo21 | (injection eo21 with f1_ f2_ f3_; have f4_ := f1_.symm; have f5_ := f3_.symm; clear f1_ f2_ f3_; subst f4_; subst f5_))
                        have p711 : 0 ≤ (x7_2 : Int) := of_decide_eq_true (by first | (with_reducible assumption) | assumption)
                        have q711 : x7_2 < (x0_2.length : Int) := of_decide_eq_true (by first | (with_reducible assumption) | assumption)
                        obtain ⟨ad711, e711, hx711_0⟩ := Kd.at_int (Kd.R_reads' HO_0.out).2.2 x7_2 p711 q711
                        cases e711
                        replace p711 := eq_true p711
                        replace q711 := eq_true q711
                        have p712 : 0 ≤ ((ji8) : Int) := of_decide_eq_true (by first | (with_reducible assumption) | assumption)
                        have q712 : (ji8) < (x0_2.length : Int) := of_decide_eq_true (by first | (with_reducible assumption) | assumption)
                        obtain ⟨ad712, e712, hx712_0⟩ := Kd.at_int (Kd.R_reads' HO_0.out).2.2 (ji8) p712 q712
                        obtain rfl : ad711 = ad712 := (by injection e712)
                        replace p712 := eq_true p712
                        replace q712 := eq_true q712
                        refine start_ (n := 15) (S := fun w' => w'.cell? (ad711.add (x7_2).toNat) = some (.int .i64 (rd x0_2 x7_2)) ∧ w'.cell? (ad711.add ((ji8)).toNat) = some (.int .i64 (rd x0_2 (ji8)))) (ds := []) #[false, false, false, false, false, false, false, false, false, false, false, false, false, false, false] (by kernel_rfl) rfl rfl ⟨hx711_0, hx712_0⟩ (fun hHeld => ?_); refine with_tabW slices_insertionSortOrdered_int.tab4 slices_insertionSortOrdered_int.bits4 (fun HT_ HW_ => ?_)
                        generalize wr.drew = w20 at HO_0 HK HB hx711_0 hx712_0 hHeld ⊢
                        refine pure_ (i := 0) (N := some 16) (v := ?_) (a' := ?_) #[true, false, false, false, false, false, false, false, false, false, false, false, false, false, false] rfl rfl (any_of HT_.out (by kernel_rfl)) (fun _ _ _ h => h) (Or.inl ⟨by rfl, ?_⟩) ?_ ?_
                        rotate_left
                        · intro w'
                          go_simp
                          with_reducible rfl
                        rotate_left
                        · simp only [Act.put, List.setIfInBounds_toArray, List.set_cons_zero, List.set_cons_succ, i64_w, i32_w]
                          rfl
                        refine pure_ (i := 1) (N := some 17) (v := ?_) (a' := ?_) #[true, true, false, false, false, false, false, false, false, false, false, false, false, false, false] rfl rfl (any_of HT_.out (by kernel_rfl)) (fun _ _ _ h => h) (Or.inl ⟨by rfl, ?_⟩) ?_ ?_
                        rotate_left
                        · intro w'
                          go_simp
                          with_reducible rfl
                        rotate_left
                        · simp only [Act.put, List.setIfInBounds_toArray, List.set_cons_zero, List.set_cons_succ, i64_w, i32_w]
                          rfl
                        refine pure_ (i := 2) (N := some 18) (v := ?_) (a' := ?_) #[true, true, true, false, false, false, false, false, false, false, false, false, false, false, false] rfl rfl (any_of HT_.out (by kernel_rfl)) (fun _ _ _ h => h) (Or.inl ⟨by rfl, ?_⟩) ?_ ?_
                        rotate_left
                        · intro w'
                          go_simp
                          with_reducible rfl
                        rotate_left
                        · simp only [Act.put, List.setIfInBounds_toArray, List.set_cons_zero, List.set_cons_succ, i64_w, i32_w]
                          rfl
                        refine pure_ (i := 3) (N := some 19) (v := ?_) (a' := ?_) #[true, true, true, true, false, false, false, false, false, false, false, false, false, false, false] rfl rfl (any_of HT_.out (by kernel_rfl)) (fun _ _ _ h => h) (Or.inl ⟨by rfl, ?_⟩) ?_ ?_
                        rotate_left
                        · intro w'
                          go_simp
                          with_reducible rfl
                        rotate_left
                        · simp only [Act.put, List.setIfInBounds_toArray, List.set_cons_zero, List.set_cons_succ, i64_w, i32_w]
                          rfl
                        refine pure_ (i := 4) (N := some 20) (v := ?_) (a' := ?_) #[true, true, true, true, true, false, false, false, false, false, false, false, false, false, false] rfl rfl (any_of HT_.out (by kernel_rfl)) (fun _ _ _ h => h) (Or.inl ⟨by rfl, ?_⟩) ?_ ?_
                        rotate_left
                        · intro w'
                          go_simp
                          with_reducible rfl
                        rotate_left
                        · simp only [Act.put, List.setIfInBounds_toArray, List.set_cons_zero, List.set_cons_succ, i64_w, i32_w]
                          rfl
                        refine pure_ (i := 5) (N := some 21) (v := ?_) (a' := ?_) #[true, true, true, true, true, true, false, false, false, false, false, false, false, false, false] rfl rfl (any_of HT_.out (by kernel_rfl)) (fun _ _ _ h => h) (Or.inl ⟨by rfl, ?_⟩) ?_ ?_
                        rotate_left
                        · intro w'
                          go_simp
                          with_reducible rfl
                        rotate_left
                        · simp only [Act.put, List.setIfInBounds_toArray, List.set_cons_zero, List.set_cons_succ, i64_w, i32_w]
                          rfl
                        refine pure_ (i := 6) (N := some 22) (v := ?_) (a' := ?_) #[true, true, true, true, true, true, true, false, false, false, false, false, false, false, false] rfl rfl (any_of HT_.out (by kernel_rfl)) (fun _ _ _ h => h) (Or.inl ⟨by rfl, ?_⟩) ?_ ?_
                        rotate_left
                        · intro w'
                          go_simp
                          with_reducible rfl
                        rotate_left
                        · simp only [Act.put, List.setIfInBounds_toArray, List.set_cons_zero, List.set_cons_succ, i64_w, i32_w]
                          rfl
                        refine pure_ (i := 8) (N := some 24) (v := ?_) (a' := ?_) #[true, true, true, true, true, true, true, false, true, false, false, false, false, false, false] rfl rfl (any_of HT_.out (by kernel_rfl)) (fun _ _ _ h => h) (Or.inl ⟨by rfl, ?_⟩) ?_ ?_
                        rotate_left
                        · intro w'
                          go_simp
                          with_reducible rfl
                        rotate_left
                        · simp only [Act.put, List.setIfInBounds_toArray, List.set_cons_zero, List.set_cons_succ, i64_w, i32_w]
                          rfl
                        refine pure_ (i := 9) (N := some 25) (v := ?_) (a' := ?_) #[true, true, true, true, true, true, true, false, true, true, false, false, false, false, false] rfl rfl (any_of HT_.out (by kernel_rfl)) (fun _ _ _ h => h) (Or.inl ⟨by rfl, ?_⟩) ?_ ?_
                        rotate_left
                        · intro w'
                          go_simp
                          with_reducible rfl
                        rotate_left
                        · simp only [Act.put, List.setIfInBounds_toArray, List.set_cons_zero, List.set_cons_succ, i64_w, i32_w]
                          rfl
                        refine pure_ (i := 10) (N := some 26) (v := ?_) (a' := ?_) #[true, true, true, true, true, true, true, false, true, true, true, false, false, false, false] rfl rfl (any_of HT_.out (by kernel_rfl)) (fun _ _ _ h => h) (Or.inl ⟨by rfl, ?_⟩) ?_ ?_
                        rotate_left
                        · intro w'
                          go_simp
                          with_reducible rfl
                        rotate_left
                        · simp only [Act.put, List.setIfInBounds_toArray, List.set_cons_zero, List.set_cons_succ, i64_w, i32_w]
                          rfl
                        refine pure_ (i := 11) (N := some 27) (v := ?_) (a' := ?_) #[true, true, true, true, true, true, true, false, true, true, true, true, false, false, false] rfl rfl (any_of HT_.out (by kernel_rfl)) (fun _ _ _ h => h) (Or.inl ⟨by rfl, ?_⟩) ?_ ?_
                        rotate_left
                        · intro w'
                          go_simp
                          with_reducible rfl
                        rotate_left
                        · simp only [Act.put, List.setIfInBounds_toArray, List.set_cons_zero, List.set_cons_succ, i64_w, i32_w]
                          rfl
                        refine take_ (i := 7) (N := some 23) (v := ?_) (a' := ?_) #[true, true, true, true, true, true, true, true, true, true, true, true, false, false, false] rfl rfl (take_ofW HT_.out HW_.out (by kernel_rfl)) (fun _ _ _ h => h) (Or.inl ⟨by rfl, ?_⟩) hHeld ?_ ?_
                        rotate_left
                        · rintro w' ⟨s0, s1⟩
                          go_simp
                          with_reducible rfl
                        rotate_left
                        · simp only [Act.put, List.setIfInBounds_toArray, List.set_cons_zero, List.set_cons_succ, i64_w, i32_w]
                          rfl
                        refine take_ (i := 12) (N := some 28) (v := ?_) (a' := ?_) #[true, true, true, true, true, true, true, true, true, true, true, true, true, false, false] rfl rfl (take_ofW HT_.out HW_.out (by kernel_rfl)) (fun _ _ _ h => h) (Or.inl ⟨by rfl, ?_⟩) hHeld ?_ ?_
                        rotate_left
                        · rintro w' ⟨s0, s1⟩
                          go_simp
                          with_reducible rfl
                        rotate_left
                        · simp only [Act.put, List.setIfInBounds_toArray, List.set_cons_zero, List.set_cons_succ, i64_w, i32_w]
                          rfl
                        refine one_ (i := 13) (N := some 29) #[true, true, true, true, true, true, true, true, true, true, true, true, true, true, false] rfl rfl (one_of HT_.out (by kernel_rfl)) (by decide) (fun K hK => ?_)
                        refine goes_ Try.func131 (by kernel_rfl) rfl #[.int .i64 (rd x0_2 x7_2), .int .i64 (rd x0_2 (ji8))] (by rfl) rfl rfl (by (try simp only [List.map_toArray, List.map_cons, List.map_nil]); first | done | (simp only [hji8]; rfl) | rfl | (simp only [List.length_drop, List.length_take]; rfl)) ?_
                        with_reducible refine (cmp_Less_int.calls (rd x0_2 x7_2) (rd x0_2 (ji8)) false _ A11.out).mono ?_
                        rintro e w' ⟨rfl, ⟨nd, rfl⟩⟩
                        refine ⟨_, rfl, ?_⟩
                        refine hK.out _ _ ⟨hHeld.1, hHeld.2⟩ (fun hHeld => ?_)
                        clear hK K
                        refine norm_ (a' := ?_) ?_ ?_
                        rotate_left
                        · show Act.put _ (some 29) _ = _
                          simp only [Act.put, List.setIfInBounds_toArray, List.set_cons_zero, List.set_cons_succ, i64_w, i32_w]
                          rfl
                        refine pure_ (i := 14) (N := some 30) (v := ?_) (a' := ?_) #[true, true, true, true, true, true, true, true, true, true, true, true, true, true, true] rfl rfl (any_of HT_.out (by kernel_rfl)) (fun _ _ _ h => h) (Or.inl ⟨by rfl, ?_⟩) ?_ ?_
                        rotate_left
                        · intro w'
                          go_simp
                          with_reducible rfl
                        rotate_left
                        · simp only [Act.put, List.setIfInBounds_toArray, List.set_cons_zero, List.set_cons_succ, i64_w, i32_w]
                          rfl
                        refine done_ (done_of HT_.out (by kernel_rfl)) ?_
                        try go_wp2
                        go_roundg k2
                        case measure => have := HK1.out; have := HK2.out; omega
                        case rel => exact ⟨(x0_2), (wrap64 (x6_1 + 1)), (by first | rfl | (simp; done) | (simp [*]; done)), H', ⟨by have := HK1.out; have := HK2.out; omega⟩, ⟨by (with_reducible repeat (first | apply Kd.R_alloc | apply Kd.R_drewN | apply Kd.R_drew)); exact HO_0.out⟩, ⟨by repeat (first | (with_reducible first | exact HK.out | apply Kept.alloc | apply Kept.drewN | apply Kept.drew) | exact HK.out)⟩, ⟨by repeat (first | (with_reducible first | exact HB.out | apply below_alloc | apply pw_below_drewN | apply below_drew1) | exact HB.out)⟩⟩
                    · rw [if_neg c10] at H
                      exact absurd H (by simp)
                  · rw [if_neg c9] at H
                    exact absurd H (by simp)
                · rw [if_neg c7] at H
                  exact absurd H (by simp)
              · rw [if_neg c6] at H
                exact absurd H (by simp)
            · rw [if_neg c5] at H
              have c5b0 : decide (a1 < x7_2) = false := decide_eq_false c5
              clear c5
              have H' := Aside0.mk H
              clear H
              try go_wp2
              have n0_ := Aside0.mk (Kd.R_drew HO_0.out)
              have n1_ := Aside0.mk (Kept.drew HK.out)
              have n2_ := Aside0.mk (below_drew1 HB.out)
              clear HO_0
              clear HK
              clear HB
              have HO_0 := n0_
              have HK := n1_
              have HB := n2_
              clear n0_ n1_ n2_
              refine start_ (n := 15) (S := fun w' => True) (ds := []) #[false, false, false, false, false, false, false, false, false, false, false, false, false, false, false] (by kernel_rfl) rfl rfl trivial (fun hHeld => ?_); refine with_tabW slices_insertionSortOrdered_int.tab4 slices_insertionSortOrdered_int.bits4 (fun HT_ HW_ => ?_)
              generalize wr.drew = w22 at HO_0 HK HB hHeld ⊢
              refine pure_ (i := 0) (N := some 16) (v := ?_) (a' := ?_) #[true, false, false, false, false, false, false, false, false, false, false, false, false, false, false] rfl rfl (any_of HT_.out (by kernel_rfl)) (fun _ _ _ h => h) (Or.inl ⟨by rfl, ?_⟩) ?_ ?_
              rotate_left
              · intro w'
                go_simp
                with_reducible rfl
              rotate_left
              · simp only [Act.put, List.setIfInBounds_toArray, List.set_cons_zero, List.set_cons_succ, i64_w, i32_w]
                rfl
              refine pure_ (i := 1) (N := some 17) (v := ?_) (a' := ?_) #[true, true, false, false, false, false, false, false, false, false, false, false, false, false, false] rfl rfl (any_of HT_.out (by kernel_rfl)) (fun _ _ _ h => h) (Or.inl ⟨by rfl, ?_⟩) ?_ ?_
              rotate_left
              · intro w'
                go_simp
                with_reducible rfl
              rotate_left
              · simp only [Act.put, List.setIfInBounds_toArray, List.set_cons_zero, List.set_cons_succ, i64_w, i32_w]
                rfl
              refine pure_ (i := 2) (N := some 18) (v := ?_) (a' := ?_) #[true, true, true, false, false, false, false, false, false, false, false, false, false, false, false] rfl rfl (any_of HT_.out (by kernel_rfl)) (fun _ _ _ h => h) (Or.inl ⟨by rfl, ?_⟩) ?_ ?_
              rotate_left
              · intro w'
                go_simp
                with_reducible rfl
              rotate_left
              · simp only [Act.put, List.setIfInBounds_toArray, List.set_cons_zero, List.set_cons_succ, i64_w, i32_w]
                rfl
              refine pure_ (i := 3) (N := some 19) (v := ?_) (a' := ?_) #[true, true, true, true, false, false, false, false, false, false, false, false, false, false, false] rfl rfl (any_of HT_.out (by kernel_rfl)) (fun _ _ _ h => h) (Or.inl ⟨by rfl, ?_⟩) ?_ ?_
              rotate_left
              · intro w'
                go_simp
                with_reducible rfl
              rotate_left
              · simp only [Act.put, List.setIfInBounds_toArray, List.set_cons_zero, List.set_cons_succ, i64_w, i32_w]
                rfl
              refine pure_ (i := 4) (N := some 20) (v := undef) (a' := ?_) #[true, true, true, true, true, false, false, false, false, false, false, false, false, false, false] rfl rfl (any_of HT_.out (by kernel_rfl)) (fun _ _ _ h => h) (Or.inr ⟨by rfl, rfl⟩) ?_ ?_
              rotate_left
              · simp only [Act.put, List.setIfInBounds_toArray, List.set_cons_zero, List.set_cons_succ, i64_w, i32_w]
                rfl
              refine pure_ (i := 5) (N := some 21) (v := undef) (a' := ?_) #[true, true, true, true, true, true, false, false, false, false, false, false, false, false, false] rfl rfl (any_of HT_.out (by kernel_rfl)) (fun _ _ _ h => h) (Or.inr ⟨by rfl, rfl⟩) ?_ ?_
              rotate_left
              · simp only [Act.put, List.setIfInBounds_toArray, List.set_cons_zero, List.set_cons_succ, i64_w, i32_w]
                rfl
              refine pure_ (i := 6) (N := some 22) (v := undef) (a' := ?_) #[true, true, true, true, true, true, true, false, false, false, false, false, false, false, false] rfl rfl (any_of HT_.out (by kernel_rfl)) (fun _ _ _ h => h) (Or.inr ⟨by rfl, rfl⟩) ?_ ?_
              rotate_left
              · simp only [Act.put, List.setIfInBounds_toArray, List.set_cons_zero, List.set_cons_succ, i64_w, i32_w]
                rfl
              refine pure_ (i := 7) (N := some 23) (v := undef) (a' := ?_) #[true, true, true, true, true, true, true, true, false, false, false, false, false, false, false] rfl rfl (any_of HT_.out (by kernel_rfl)) (fun _ _ _ h => h) (Or.inr ⟨by rfl, rfl⟩) ?_ ?_
              rotate_left
              · simp only [Act.put, List.setIfInBounds_toArray, List.set_cons_zero, List.set_cons_succ, i64_w, i32_w]
                rfl
              refine pure_ (i := 8) (N := some 24) (v := undef) (a' := ?_) #[true, true, true, true, true, true, true, true, true, false, false, false, false, false, false] rfl rfl (any_of HT_.out (by kernel_rfl)) (fun _ _ _ h => h) (Or.inr ⟨by rfl, rfl⟩) ?_ ?_
              rotate_left
              · simp only [Act.put, List.setIfInBounds_toArray, List.set_cons_zero, List.set_cons_succ, i64_w, i32_w]
                rfl
              refine pure_ (i := 9) (N := some 25) (v := undef) (a' := ?_) #[true, true, true, true, true, true, true, true, true, true, false, false, false, false, false] rfl rfl (any_of HT_.out (by kernel_rfl)) (fun _ _ _ h => h) (Or.inr ⟨by rfl, rfl⟩) ?_ ?_
              rotate_left
              · simp only [Act.put, List.setIfInBounds_toArray, List.set_cons_zero, List.set_cons_succ, i64_w, i32_w]
                rfl
              refine pure_ (i := 10) (N := some 26) (v := undef) (a' := ?_) #[true, true, true, true, true, true, true, true, true, true, true, false, false, false, false] rfl rfl (any_of HT_.out (by kernel_rfl)) (fun _ _ _ h => h) (Or.inr ⟨by rfl, rfl⟩) ?_ ?_
              rotate_left
              · simp only [Act.put, List.setIfInBounds_toArray, List.set_cons_zero, List.set_cons_succ, i64_w, i32_w]
                rfl
              refine pure_ (i := 11) (N := some 27) (v := undef) (a' := ?_) #[true, true, true, true, true, true, true, true, true, true, true, true, false, false, false] rfl rfl (any_of HT_.out (by kernel_rfl)) (fun _ _ _ h => h) (Or.inr ⟨by rfl, rfl⟩) ?_ ?_
              rotate_left
              · simp only [Act.put, List.setIfInBounds_toArray, List.set_cons_zero, List.set_cons_succ, i64_w, i32_w]
                rfl
              refine pure_ (i := 12) (N := some 28) (v := undef) (a' := ?_) #[true, true, true, true, true, true, true, true, true, true, true, true, true, false, false] rfl rfl (any_of HT_.out (by kernel_rfl)) (fun _ _ _ h => h) (Or.inr ⟨by rfl, rfl⟩) ?_ ?_
              rotate_left
              · simp only [Act.put, List.setIfInBounds_toArray, List.set_cons_zero, List.set_cons_succ, i64_w, i32_w]
                rfl
              refine pure_ (i := 13) (N := some 29) (v := undef) (a' := ?_) #[true, true, true, true, true, true, true, true, true, true, true, true, true, true, false] rfl rfl (any_of HT_.out (by kernel_rfl)) (fun _ _ _ h => h) (Or.inr ⟨by rfl, rfl⟩) ?_ ?_
              rotate_left
              · simp only [Act.put, List.setIfInBounds_toArray, List.set_cons_zero, List.set_cons_succ, i64_w, i32_w]
                rfl
              refine pure_ (i := 14) (N := some 30) (v := ?_) (a' := ?_) #[true, true, true, true, true, true, true, true, true, true, true, true, true, true, true] rfl rfl (any_of HT_.out (by kernel_rfl)) (fun _ _ _ h => h) (Or.inl ⟨by rfl, ?_⟩) ?_ ?_
              rotate_left
              · intro w'
                go_simp
                with_reducible rfl
              rotate_left
              · simp only [Act.put, List.setIfInBounds_toArray, List.set_cons_zero, List.set_cons_succ, i64_w, i32_w]
                rfl
              refine done_ (done_of HT_.out (by kernel_rfl)) ?_
              try go_wp2
              go_roundg k2
              case measure => have := HK1.out; have := HK2.out; omega
              case rel => exact ⟨(x0_2), (wrap64 (x6_1 + 1)), (by first | rfl | (simp; done) | (simp [*]; done)), H', ⟨by have := HK1.out; have := HK2.out; omega⟩, ⟨by (with_reducible repeat (first | apply Kd.R_alloc | apply Kd.R_drewN | apply Kd.R_drew)); exact HO_0.out⟩, ⟨by repeat (first | (with_reducible first | exact HK.out | apply Kept.alloc | apply Kept.drewN | apply Kept.drew) | exact HK.out)⟩, ⟨by repeat (first | (with_reducible first | exact HB.out | apply below_alloc | apply pw_below_drewN | apply below_drew1) | exact HB.out)⟩⟩
      · rw [if_neg c4] at H
        have c4b0 : decide (x6_1 < a2) = false := decide_eq_false c4
        clear c4
        obtain rfl := Option.some.inj H
        go_wp2
        first | go_end0 | ((try simp only [Exit.inBlock, Exit.then]); refine bodyPost_ret (results_none rfl _ _ _) rfl ?_)
        exact ⟨by first | rfl | (simp [errW_none, errW_some] <;> rfl) | (simp [*, errW_none, errW_some] <;> rfl), by (with_reducible repeat (first | apply Kd.R_alloc | apply Kd.R_drewN | apply Kd.R_drew)); exact HO_0.out, by repeat (first | (with_reducible first | exact HB.out | apply below_alloc | apply pw_below_drewN | apply below_drew1) | exact HB.out), by repeat (first | (with_reducible first | exact HK.out | apply Kept.alloc | apply Kept.drewN | apply Kept.drew) | exact HK.out)⟩

end Go.Proofs.Ytdbeochifofdoaa.X
end

section
/-! slices.Sort of few numbers (insertion). -/
namespace Go.Proofs.Ytdbeochifofdoaa.X
open Go.RowKit Go.Proofs.YtdbeochifofdoaaW.PrintWords Go.Proofs.YtdbeochifofdoaaW.PrintLast Go.Proofs.YtdbeochifofdoaaW.PrintMore
set_option linter.unusedVariables false
set_option linter.unusedSimpArgs false

/-- Into a falling list. -/
def insR (x : Int) : List Int → List Int
  | [] => [x]
  | a :: r => if x < a then a :: insR x r else x :: a :: r
def sortR (ra l : List Int) : List Int := l.foldl (fun r x => insR x r) ra
def sortL (l : List Int) : List Int := (sortR [] l).reverse
theorem insR_len (x : Int) : ∀ r, (insR x r).length = r.length + 1
  | [] => rfl
  | a :: r => by
    unfold insR
    split
    · rw [List.length_cons, insR_len x r]; rfl
    · rfl
theorem less_f (a b : Int) : cmp_Less_int.f a b = some (decide (a < b)) := by
  unfold cmp_Less_int.f cmp_isNaN_int.f
  simp
theorem wr_sub (i : Nat) (h : i < 100) : wrap64 (((i + 1 : Nat) : Int) - 1) = (i : Int) := by rw [wr_of (by omega) (by omega)]; omega
theorem wr_add (i : Nat) (h : i < 100) : wrap64 ((i : Int) + 1) = ((i + 1 : Nat) : Int) := by rw [wr_of (by omega) (by omega)]; omega
theorem ins_l1 (x : Int) (n i : Nat) (T : List Int) (R : Option (List Int)) (K : Nat) (hi : i < 50) : ∀ (ra D : List Int) (k : Nat), K + ra.length + 1 ≤ k → ra.length + 1 + D.length + T.length ≤ 50 →
    (∀ k, K ≤ k → slices_insertionSortOrdered_int.l0 k ((insR x ra).reverse ++ (D ++ T)) 0 n ((i + 1 : Nat) : Int) = R) → slices_insertionSortOrdered_int.l1 k (ra.reverse ++ x :: (D ++ T)) 0 n i ra.length = R
  | [], D, k + 1, hk, hn, hc => by
    rw [slices_insertionSortOrdered_int.l1, if_neg (by simp), wr_add i (by omega)]
    exact hc k (by omega)
  | a :: r, D, k + 1, hk, hn, hc => by
    have e1 : (a :: r).reverse ++ x :: (D ++ T) = r.reverse ++ a :: x :: (D ++ T) := by simp
    rw [e1, List.length_cons] at *
    have l0 : (r.reverse ++ a :: x :: (D ++ T)).length = r.length + 2 + D.length + T.length := by simp; omega
    have g1 : rd (r.reverse ++ a :: x :: (D ++ T)) ((r.length + 1 : Nat) : Int) = x := by
      show (r.reverse ++ a :: x :: (D ++ T)).getD (r.length + 1) 0 = x
      simp [List.getD_eq_getElem?_getD, List.getElem?_append_right]
    have g0 : rd (r.reverse ++ a :: x :: (D ++ T)) (r.length : Int) = a := by
      show (r.reverse ++ a :: x :: (D ++ T)).getD r.length 0 = a
      simp [List.getD_eq_getElem?_getD, List.getElem?_append_right]
    rw [slices_insertionSortOrdered_int.l1, if_pos (by omega), if_pos (by omega), if_pos (by omega), wr_sub r.length (by omega), if_pos (by omega), if_pos (by omega), g1, g0, less_f, Option.bind_some]
    by_cases hx : x < a
    · have hr : insR x (a :: r) = a :: insR x r := by rw [insR, if_pos hx]
      rw [decide_eq_true hx, if_pos rfl, Int.toNat_natCast, Int.toNat_natCast]
      have e2 : ((r.reverse ++ a :: x :: (D ++ T)).set (r.length + 1) a).set r.length x = r.reverse ++ x :: ((a :: D) ++ T) := by
        rw [List.set_append_right _ _ (by simp), List.set_append_right _ _ (by simp)]
        simp
      rw [e2]
      refine ins_l1 x n i T R K hi r (a :: D) k (by omega) (by rw [List.length_cons]; omega) (fun k hk => ?_)
      have := hc k hk
      rw [hr, List.reverse_cons, List.append_assoc, List.singleton_append] at this
      exact this
    · have hr : insR x (a :: r) = x :: a :: r := by rw [insR, if_neg hx]
      rw [decide_eq_false hx, if_neg (by simp), wr_add i (by omega)]
      have := hc k (by omega)
      rw [hr, List.reverse_cons, List.append_assoc, List.singleton_append, List.reverse_cons, List.append_assoc, List.singleton_append] at this
      exact this
theorem sort_l0 (n : Nat) (hn : n ≤ 12) : ∀ (T ra : List Int) (k : Nat), ra.length + T.length = n → 30 * T.length + 1 ≤ k → slices_insertionSortOrdered_int.l0 k (ra.reverse ++ T) 0 n ra.length = some (sortR ra T).reverse
  | [], ra, k + 1, h, hk => by
    rw [List.length_nil] at h
    rw [slices_insertionSortOrdered_int.l0, if_neg (by omega), List.append_nil]
    rfl
  | x :: T, ra, k + 1, h, hk => by
    rw [List.length_cons] at h hk
    rw [slices_insertionSortOrdered_int.l0, if_pos (by omega)]
    refine ins_l1 x n ra.length T _ (30 * T.length + 1) (by omega) ra [] k (by omega) (by simp; omega) (fun k hk => ?_)
    have := sort_l0 n hn T (insR x ra) k (by rw [insR_len]; omega) hk
    rw [insR_len] at this
    exact this
theorem sort_f (l : List Int) (hl : l.length ≤ 12) (k : Nat) (hk : 400 ≤ k) : slices_insertionSortOrdered_int.f k l 0 l.length = some (sortL l) := by
  unfold slices_insertionSortOrdered_int.f sortL
  match l, hl with
  | [], _ =>
    obtain ⟨k, rfl⟩ : ∃ q, k = q + 1 := ⟨k - 1, by omega⟩
    rw [slices_insertionSortOrdered_int.l0, if_neg (by rw [wr_of (by omega) (by omega)]; simp)]
    rfl
  | x :: T, hl =>
    have h := sort_l0 (x :: T).length hl T [x] k (by simp [Nat.add_comm]) (by rw [List.length_cons] at hl; omega)
    rw [show wrap64 (0 + 1) = (([x] : List Int).length : Int) from by rw [wr_of (by omega) (by omega)]; rfl]
    exact h
set_option maxHeartbeats 4000000 in
set_option maxRecDepth 100000 in
theorem pdq_calls (v : Value) (l : List Int) (hl : l.length ≤ 12) (x : Int) (w0 w : World) (hB : Below w0.heap.size w0 w) (ho : Kd.R (Kd.int .i64) 3 w w0.heap.size (fun k => some k = v.ownBlock) v l) :
    Calls Try.prog 120 #[v, .int .i64 0, .int .i64 l.length, .int .i64 x] w fun e w' => e = .returned (.tuple #[]) ∧ Kd.R (Kd.int .i64) 3 w' w0.heap.size (fun k => True) v (sortL l) ∧ Below w0.heap.size w0 w' ∧ Kept w w' (fun k => some k = v.ownBlock) := by
  obtain ⟨A, c, rfl⟩ := Kd.R_slice ho
  have HB := Aside0.mk hB
  have HO := Aside0.mk ho
  have HF := Aside0.mk (sort_f l hl 400 (by omega))
  clear hB ho
  have b0 : (0 : Int) ≤ (l.length : Int) := by omega
  have b1 : (l.length : Int) ≤ 18446744073709551615 := by omega
  have b2 : (l.length : Int) ≤ 12 := by omega
  go_enter Try.func120, Try.ntmps120
  go_wp2_with fail
  refine wp_loop_rounds 1 ?_
  rw [rounds_succ]
  go_wp2_with fail
  refine (slices_insertionSortOrdered_int.calls 400 _ _ l 0 l.length _ w0 w HB.out HO.out HF.out).mono ?_
  rintro e w1 ⟨rfl, h1, h2, h3⟩
  have H1 := Aside0.mk h1
  have H2 := Aside0.mk h2
  have H3 := Aside0.mk h3
  clear h1 h2 h3
  go_wp2
  first | go_end0 | ((try simp only [Exit.inBlock, Exit.then]); refine bodyPost_ret (results_none rfl _ _ _) rfl ?_)
  exact ⟨rfl, Kd.R_mono H1.out (fun _ _ => trivial), H2.out, H3.out⟩
set_option maxHeartbeats 4000000 in
set_option maxRecDepth 100000 in
theorem sort_calls (v : Value) (l : List Int) (hl : l.length ≤ 12) (w0 w : World) (hB : Below w0.heap.size w0 w) (ho : Kd.R (Kd.int .i64) 3 w w0.heap.size (fun k => some k = v.ownBlock) v l) :
    Calls Try.prog 111 #[v] w fun e w' => e = .returned (.tuple #[]) ∧ Kd.R (Kd.int .i64) 3 w' w0.heap.size (fun k => True) v (sortL l) ∧ Below w0.heap.size w0 w' ∧ Kept w w' (fun k => some k = v.ownBlock) := by
  obtain ⟨A, c, rfl⟩ := Kd.R_slice ho
  have HB := Aside0.mk hB
  have HO := Aside0.mk ho
  have HF := Aside0.mk (sort_f l hl 400 (by omega))
  clear hB ho
  have b0 : (0 : Int) ≤ (l.length : Int) := by omega
  have b1 : (l.length : Int) ≤ 18446744073709551615 := by omega
  have b2 : (l.length : Int) ≤ 12 := by omega
  go_enter Try.func111, Try.ntmps111
  go_wp2_with fail
  refine (Try.bits_Len _ _ b0 b1).mono ?_
  rintro e w' ⟨rfl, rfl⟩
  go_wp2_with fail
  refine (pdq_calls _ l hl _ w0 _ HB.out HO.out).mono ?_
  rintro e w1 ⟨rfl, h1, h2, h3⟩
  have H1 := Aside0.mk h1
  have H2 := Aside0.mk h2
  have H3 := Aside0.mk h3
  clear h1 h2 h3
  go_wp2
  first | go_end0 | ((try simp only [Exit.inBlock, Exit.then]); refine bodyPost_ret (results_none rfl _ _ _) rfl ?_)
  exact ⟨rfl, H1.out, H2.out, H3.out⟩
end Go.Proofs.Ytdbeochifofdoaa.X
end

section
/-! weigh.cased. -/
namespace Go.Proofs.Ytdbeochifofdoaa.X
open Go.RowKit Go.Proofs.YtdbeochifofdoaaW.PrintWords Go.Proofs.YtdbeochifofdoaaW.PrintLast Go.Proofs.YtdbeochifofdoaaW.PrintMore
set_option linter.unusedVariables false
set_option linter.unusedSimpArgs false

/-- The error of lots, a plan and cases. -/
def cErr (lots : Int) (l : List S53) (cs : List S35) : Int :=
  if pErr lots l = 0 then (if cs.any (fun x => !(decide (0 ≤ x.f0) && decide (x.f0 ≤ lots - 1))) = true then 4 else if cs.any (fun x => x.f1 != 1 && x.f1 != -1) = true then 1 else 0) else pErr lots l
end Go.Proofs.Ytdbeochifofdoaa.X
end

section
/-! What the document's small functions come to. -/
namespace Go.Proofs.Ytdbeochifofdoaa.X
open Go.RowKit Go.Proofs.YtdbeochifofdoaaW.PrintWords Go.Proofs.YtdbeochifofdoaaW.PrintLast
set_option linter.unusedVariables false
set_option linter.unusedSimpArgs false

theorem wrs (i : Nat) (h : i < 9223372036854775807) : wrap64 ((i : Int) + 1) = ((i + 1 : Nat) : Int) := by rw [wr1 (by omega) (by omega)]; omega

theorem has_l0 (l : List Int) (x : Int) (hl : l.length < 9223372036854775807) : ∀ (d k i : Nat), i ≤ l.length → l.length - i = d → d < k → verditerref06_has.l0 k l x i = some ((l.drop i).contains x)
  | 0, k + 1, i, h1, h2, _ => by
    unfold verditerref06_has.l0
    rw [if_neg (by omega), List.drop_eq_nil_of_le (by omega)]
    rfl
  | d + 1, k + 1, i, h1, h2, h3 => by
    unfold verditerref06_has.l0
    rw [if_pos (by omega), if_pos (by omega), rd_nat, dropD 0 l i (by omega), List.contains_cons, wrs i (by omega)]
    have ih := has_l0 l x hl d k (i + 1) (by omega) (by omega) (by omega)
    by_cases hx : l.getD i 0 = x
    · rw [if_pos hx, hx]; simp
    · have hbe : (x == l.getD i 0) = false := by rw [beq_eq_false_iff_ne]; exact fun e => hx e.symm
      rw [if_neg hx, ih, hbe, Bool.false_or]
theorem has_f (l : List Int) (x : Int) (k : Nat) (hl : l.length < 9223372036854775807) (hk : l.length < k) : verditerref06_has.f k l x = some (l.contains x) := by
  unfold verditerref06_has.f
  exact (has_l0 l x hl l.length k 0 (by omega) (by omega) hk).trans (by simp)

/-- The document's mark of a lot. -/
def markOf (x : Int) (y : S53) : Int := if y.f1.contains x then -1 else if y.f0.contains x then 1 else 0
def refMark (l : List S53) (x : Int) : List Int := l.map (markOf x)
theorem same_l0 (l m : List Int) (hl : l.length < 9223372036854775807) (he : l.length = m.length) : ∀ (d k i : Nat), i ≤ l.length → l.length - i = d → d < k → verditerref06_SameInts.l0 k l m i = some (l.drop i == m.drop i)
  | 0, k + 1, i, h1, h2, _ => by
    unfold verditerref06_SameInts.l0
    rw [if_neg (by omega), List.drop_eq_nil_of_le (by omega), List.drop_eq_nil_of_le (by omega)]
    rfl
  | d + 1, k + 1, i, h1, h2, h3 => by
    unfold verditerref06_SameInts.l0
    rw [if_pos (by omega), if_pos (by omega), if_pos (by omega), rd_nat, rd_nat, dropD 0 l i (by omega), dropD 0 m i (by omega), List.cons_beq_cons, wrs i (by omega)]
    have ih := same_l0 l m hl he d k (i + 1) (by omega) (by omega) (by omega)
    by_cases hx : l.getD i 0 = m.getD i 0
    · have hbe : (l.getD i 0 == m.getD i 0) = true := by rw [beq_iff_eq]; exact hx
      rw [if_pos hx, ih, hbe, Bool.true_and]
    · have hbe : (l.getD i 0 == m.getD i 0) = false := by rw [beq_eq_false_iff_ne]; exact hx
      rw [if_neg hx, hbe]
      rfl
theorem same_f (l m : List Int) (k : Nat) (hl : l.length < 9223372036854775807) (hk : l.length < k) : verditerref06_SameInts.f k l m = some (l == m) := by
  unfold verditerref06_SameInts.f
  by_cases he : l.length = m.length
  · rw [if_pos (by omega)]
    exact (same_l0 l m hl he l.length k 0 (by omega) (by omega) hk).trans (by simp)
  · rw [if_neg (by omega)]
    have : (l == m) = false := by rw [beq_eq_false_iff_ne]; exact fun e => he (by rw [e])
    rw [this]
end Go.Proofs.Ytdbeochifofdoaa.X
end

section
/-! The document's Validate is the program's. -/
namespace Go.Proofs.Ytdbeochifofdoaa.X
open Go.RowKit Go.Proofs.YtdbeochifofdoaaW.PrintWords Go.Proofs.YtdbeochifofdoaaW.PrintLast
set_option linter.unusedVariables false
set_option linter.unusedSimpArgs false

theorem val_l1 (lots : Int) (l : List S53) (i : Nat) (hi : i < l.length) (hm : l.length < 9223372036854775807) (hs : ∀ y, y ∈ l → y.f0.length ≤ 50 ∧ y.f1.length ≤ 50) (K : Nat) (r : Int)
    (hc : ∀ k, K ≤ k → verditerref06_Validate.l0 k lots l ((i + 1 : Nat) : Int) = some r) :
    ∀ (d j k : Nat), j ≤ (l.getD i z53).f0.length → (l.getD i z53).f0.length - j = d → K + d + 60 ≤ k →
      verditerref06_Validate.l1 k lots l i j = some (if ((l.getD i z53).f0.drop j).any (fun n => (l.getD i z53).f1.contains n) = true then 6 else if (l.getD i z53).f0.length = (l.getD i z53).f1.length then r else 5)
  | 0, j, k + 1, h1, h2, h3 => by
    unfold verditerref06_Validate.l1
    rw [if_pos (by omega), if_pos (by omega), show rd_T53 l (i : Int) = l.getD i z53 from rfl, if_neg (by omega), List.drop_eq_nil_of_le (by omega), wrs i (by omega), hc k (by omega)]
    by_cases he : (l.getD i z53).f0.length = (l.getD i z53).f1.length
    · rw [if_pos (by omega), List.any_nil, if_neg (by simp), if_pos he]
    · rw [if_neg (by omega), List.any_nil, if_neg (by simp), if_neg he]
  | d + 1, j, k + 1, h1, h2, h3 => by
    have hb := hs _ (mem_getD z53 l i hi)
    unfold verditerref06_Validate.l1
    have ih := val_l1 lots l i hi hm hs K r hc d (j + 1) k (by omega) (by omega) (by omega)
    rw [if_pos (by omega), if_pos (by omega), show rd_T53 l (i : Int) = l.getD i z53 from rfl, if_pos (by omega), if_pos (by omega), rd_nat, has_f _ _ k (by omega) (by omega), wrs j (by omega), ih, dropD 0 (l.getD i z53).f0 j (by omega), List.any_cons, Option.bind_some]
    cases hq : (l.getD i z53).f1.contains ((l.getD i z53).f0.getD j 0) with
    | true => rw [if_pos rfl, Bool.true_or, if_pos rfl]
    | false => rw [if_neg (by simp), Bool.false_or]
theorem val_l0 (lots : Int) (hl : 1 ≤ lots ∧ lots ≤ 13) (l : List S53) (hm : l.length < 9223372036854775807) (hs : ∀ y, y ∈ l → y.f0.length ≤ 50 ∧ y.f1.length ≤ 50) :
    ∀ (d i k : Nat), i ≤ l.length → l.length - i = d → 200 * (d + 1) ≤ k → verditerref06_Validate.l0 k lots l i = some (vErr lots (l.drop i))
  | 0, i, k + 1, h1, h2, h3 => by
    unfold verditerref06_Validate.l0
    rw [if_neg (by omega), List.drop_eq_nil_of_le (by omega)]
    rfl
  | d + 1, i, k + 2, h1, h2, h3 => by
    have hb := hs _ (mem_getD z53 l i (by omega))
    have hv : vErr lots (l.drop i) = if wErr lots (l.getD i z53) = 0 then vErr lots (l.drop (i + 1)) else wErr lots (l.getD i z53) := by rw [dropD z53 l i (by omega)]; rfl
    have hc : ∀ k, 200 * (d + 1) ≤ k → verditerref06_Validate.l0 k lots l ((i + 1 : Nat) : Int) = some (vErr lots (l.drop (i + 1))) := fun k hk => val_l0 lots hl l hm hs d (i + 1) k (by omega) (by omega) hk
    have h1' := val_l1 lots l i (by omega) hm hs (200 * (d + 1)) _ hc (l.getD i z53).f0.length 0 k (by omega) (by omega) (by omega)
    have hj : ∀ b, verditerref06_Validate.j1 (k + 1) lots l i b = if b = true then some 1 else verditerref06_Validate.l1 k lots l i 0 := fun b => by unfold verditerref06_Validate.j1; rfl
    unfold verditerref06_Validate.l0
    rw [if_pos (by omega), if_pos (by omega), show rd_T53 l (i : Int) = l.getD i z53 from rfl]
    simp only [verditerref06_isSet.f, if_pos hl, Option.bind_some, hj]
    rw [show ((0 : Nat) : Int) = 0 from rfl] at h1'
    rw [h1', hv]
    unfold wErr
    cases isSetB lots (l.getD i z53).f0 <;> cases isSetB lots (l.getD i z53).f1 <;> simp <;> (split <;> simp_all)
theorem refValidate_f (lots : Int) (l : List S53) (hm : l.length < 9223372036854775807) (hs : ∀ y, y ∈ l → y.f0.length ≤ 50 ∧ y.f1.length ≤ 50) (k : Nat) (hk : 800 ≤ k) : verditerref06_Validate.f k lots l = some (pErr lots l) := by
  unfold verditerref06_Validate.f pErr
  rw [rwithin_b, Option.bind_some]
  by_cases hl : 1 ≤ lots ∧ lots ≤ 13
  · have hb : (decide (1 ≤ lots) && decide (lots ≤ 13)) = true := by simp [hl]
    rw [if_pos hb, if_pos hl]
    by_cases h3 : 3 < l.length
    · rw [if_pos (by omega), if_pos h3]
    · rw [if_neg (by omega), if_neg h3]
      exact val_l0 lots hl l hm hs l.length 0 k (by omega) (by omega) (by omega)
  · have hb : ¬ (decide (1 ≤ lots) && decide (lots ≤ 13)) = true := by simpa using hl
    rw [if_neg hb, if_neg hl]
end Go.Proofs.Ytdbeochifofdoaa.X
end

section
/-! Long; the document's tells. -/
namespace Go.Proofs.Ytdbeochifofdoaa.X
open Go.RowKit Go.Proofs.YtdbeochifofdoaaW.PrintWords Go.Proofs.YtdbeochifofdoaaW.PrintLast
set_option linter.unusedVariables false
set_option linter.unusedSimpArgs false

/-- Has a weighing a long list? -/
def longW (y : S53) : Bool := decide (50 < y.f0.length) || decide (50 < y.f1.length)
def longB (l : List S53) : Bool := decide (50 < l.length) || l.any longW
theorem long_l0 (l : List S53) (hm : l.length < 9223372036854775807) : ∀ (d k i : Nat), i ≤ l.length → l.length - i = d → d < k → verditerlaw06_Long.l0 k l i = some ((l.drop i).any longW)
  | 0, k + 1, i, h1, h2, _ => by
    unfold verditerlaw06_Long.l0
    rw [if_neg (by omega), List.drop_eq_nil_of_le (by omega)]
    rfl
  | d + 1, k + 1, i, h1, h2, h3 => by
    unfold verditerlaw06_Long.l0
    rw [if_pos (by omega), if_pos (by omega), show rd_T53 l (i : Int) = l.getD i z53 from rfl, dropD z53 l i (by omega), List.any_cons, wrs i (by omega)]
    have ih := long_l0 l hm d k (i + 1) (by omega) (by omega) (by omega)
    generalize l.getD i z53 = y
    unfold longW
    by_cases ha : 50 < y.f0.length
    · rw [if_pos (by omega), decide_eq_true ha]; rfl
    · rw [if_neg (by omega), decide_eq_false ha]
      by_cases hb : 50 < y.f1.length
      · rw [if_pos (by omega), decide_eq_true hb]; rfl
      · rw [if_neg (by omega), decide_eq_false hb, ih]; rfl
theorem long_f (l : List S53) (hm : l.length < 9223372036854775807) (k : Nat) (hk : 51 < k) : verditerlaw06_Long.f k l = some (longB l) := by
  unfold verditerlaw06_Long.f longB
  by_cases h : 50 < l.length
  · rw [if_pos (by omega), decide_eq_true h]; rfl
  · rw [if_neg (by omega), decide_eq_false h]
    exact (long_l0 l hm l.length k 0 (by omega) (by omega) (by omega)).trans (by simp)
theorem long_not {l : List S53} (h : longB l = false) : l.length ≤ 50 ∧ ∀ y, y ∈ l → y.f0.length ≤ 50 ∧ y.f1.length ≤ 50 := by
  unfold longB at h
  rw [Bool.or_eq_false_iff] at h
  refine ⟨by simpa using h.1, fun y hy => ?_⟩
  have := (List.any_eq_false.mp h.2) y hy
  unfold longW at this
  simpa using this

/-- Are the marks of the lots i and j the same, or opposite? -/
def pairB (l : List S53) (i j : Nat) : Bool := (refMark l i == refMark l j) || (refMark l i == (refMark l j).map fun y => wrap64 (-1 * y))
/-- Do the lots from i on, d of them, tell? -/
def telB (l : List S53) : Nat → Nat → Bool
  | 0, _ => true
  | d + 1, i => if (refMark l i).all (· == 0) = true then false else if (List.range' 0 i).any (pairB l i) = true then false else telB l d (i + 1)
theorem telB_succ (l : List S53) (d i : Nat) : telB l (d + 1) i = if (refMark l i).all (· == 0) = true then false else if (List.range' 0 i).any (pairB l i) = true then false else telB l d (i + 1) := rfl
end Go.Proofs.Ytdbeochifofdoaa.X
end

section
/-! The program's marks are the document's. -/
namespace Go.Proofs.Ytdbeochifofdoaa.X
open Go.RowKit Go.Proofs.YtdbeochifofdoaaW.PrintWords Go.Proofs.YtdbeochifofdoaaW.PrintLast
set_option linter.unusedVariables false
set_option linter.unusedSimpArgs false

theorem fsetl_at (k : Nat) (v : Int) : ∀ (l : List Int) (f : Nat → Nat → Int) (a b : Nat), (∀ x, x ∈ l → 0 ≤ x) → fsetl k v f l a b = if b = k ∧ l.contains (a : Int) = true then v else f a b
  | [], f, a, b, _ => by simp [fsetl]
  | x :: xs, f, a, b, h => by
    have hx : 0 ≤ x := h x List.mem_cons_self
    rw [fsetl, fsetl_at k v xs _ a b (fun y hy => h y (List.mem_cons_of_mem _ hy)), List.contains_cons]
    by_cases hb : b = k
    · subst hb
      cases hc : xs.contains (a : Int) with
      | true => simp
      | false =>
        unfold upd
        by_cases he : a = x.toNat
        · have h1 : ((a : Int) == x) = true := by rw [beq_iff_eq]; omega
          rw [h1]; simp [he]
        · have h1 : ((a : Int) == x) = false := by rw [beq_eq_false_iff_ne]; omega
          simp [he, h1]
    · simp [hb, upd]
/-- What a weighing writes into the row a. -/
def cellOf (y : S53) (a v : Int) : Int := if y.f1.contains a = true then -1 else if y.f0.contains a = true then 1 else v
theorem marksF_at : ∀ (l : List S53) (f : Nat → Nat → Int) (k a b : Nat), (∀ y, y ∈ l → (∀ x, x ∈ y.f0 → 0 ≤ x) ∧ ∀ x, x ∈ y.f1 → 0 ≤ x) →
    marksF f k l a b = if k ≤ b ∧ b < k + l.length then cellOf (l.getD (b - k) z53) a (f a b) else f a b
  | [], f, k, a, b, _ => by
    rw [if_neg (by rw [List.length_nil]; omega)]
    rfl
  | y :: ys, f, k, a, b, h => by
    have hy := h y List.mem_cons_self
    rw [marksF, marksF_at ys _ (k + 1) a b (fun z hz => h z (List.mem_cons_of_mem _ hz)), fsetl_at k (-1) y.f1 _ a b hy.2, fsetl_at k 1 y.f0 f a b hy.1]
    by_cases hb : b = k
    · subst hb
      rw [if_neg (by omega), if_pos (show b ≤ b ∧ b < b + (y :: ys).length by rw [List.length_cons]; omega), Nat.sub_self, List.getD_cons_zero]
      unfold cellOf
      simp
    · by_cases hr : k + 1 ≤ b ∧ b < k + 1 + ys.length
      · rw [if_pos hr, if_pos (show k ≤ b ∧ b < k + (y :: ys).length by rw [List.length_cons]; omega), show b - k = (b - (k + 1)) + 1 by omega]
        simp [hb, List.getD_cons_succ]
      · rw [if_neg hr, if_neg (show ¬ (k ≤ b ∧ b < k + (y :: ys).length) by rw [List.length_cons]; omega)]
        simp [hb]
end Go.Proofs.Ytdbeochifofdoaa.X
end

section
/-! bad finds nothing just if the plan tells. -/
namespace Go.Proofs.Ytdbeochifofdoaa.X
open Go.RowKit Go.Proofs.YtdbeochifofdoaaW.PrintWords Go.Proofs.YtdbeochifofdoaaW.PrintLast
set_option linter.unusedVariables false
set_option linter.unusedSimpArgs false

/-- A lot's mark, as three numbers. -/
def mk3 (l : List S53) (n : Nat) : S70 := ⟨((refMark l n).getD 0 0), ((refMark l n).getD 1 0), ((refMark l n).getD 2 0)⟩
theorem cellOf_mark (y : S53) (n : Nat) : cellOf y n 0 = markOf n y := rfl
theorem marksF_mk (l : List S53) (hp : ∀ y, y ∈ l → (∀ x, x ∈ y.f0 → 0 ≤ x) ∧ ∀ x, x ∈ y.f1 → 0 ≤ x) (n k : Nat) : marksF (fun _ _ => 0) 0 l n k = (refMark l n).getD k 0 := by
  rw [marksF_at l _ 0 n k hp]
  by_cases h : k < l.length
  · rw [if_pos (by omega), cellOf_mark]
    simp [refMark, List.getD_eq_getElem?_getD, List.getElem?_map, List.getElem?_eq_getElem h]
  · rw [if_neg (by omega)]
    simp [refMark, List.getD_eq_getElem?_getD, List.getElem?_eq_none (by simpa using h : l.length ≤ k)]
theorem marksL_mk (lots : Int) (l : List S53) (hp : ∀ y, y ∈ l → (∀ x, x ∈ y.f0 → 0 ≤ x) ∧ ∀ x, x ∈ y.f1 → 0 ≤ x) : marksL lots l = (List.range lots.toNat).map (mk3 l) := by
  unfold marksL rowsOf mk3
  simp only [marksF_mk l hp]
theorem markOf_small (n : Int) (y : S53) : -1 ≤ markOf n y ∧ markOf n y ≤ 1 := by
  unfold markOf
  split
  · decide
  · split <;> decide
theorem isZ_mk (l : List S53) (n : Nat) (hl : l.length ≤ 3) : isZ (mk3 l n) = (refMark l n).all (· == 0) := by
  match l, hl with
  | [], _ => rfl
  | [a], _ => simp [isZ, mk3, refMark]
  | [a, b], _ => simp [isZ, mk3, refMark]
  | [a, b, c], _ => simp [isZ, mk3, refMark, Bool.and_assoc]
theorem wr_small {v : Int} (h : -1 ≤ v ∧ v ≤ 1) : wrap64 (v * 1) = v ∧ wrap64 (v * -1) = -v ∧ wrap64 (-1 * v) = -v := by
  refine ⟨?_, ?_, ?_⟩
  · rw [Int.mul_one]; exact wr_of (by omega) (by omega)
  · rw [show v * -1 = -v by omega]; exact wr_of (by omega) (by omega)
  · rw [show -1 * v = -v by omega]; exact wr_of (by omega) (by omega)
end Go.Proofs.Ytdbeochifofdoaa.X
end

section
/-! bad finds nothing just if the document's tells. -/
namespace Go.Proofs.Ytdbeochifofdoaa.X
open Go.RowKit Go.Proofs.YtdbeochifofdoaaW.PrintWords Go.Proofs.YtdbeochifofdoaaW.PrintLast
set_option linter.unusedVariables false
set_option linter.unusedSimpArgs false

theorem sm_pos {x y : Int} (hx : -1 ≤ x ∧ x ≤ 1) : (y == wrap64 (x * 1)) = (x == y) := by
  rw [(wr_small hx).1]; exact BEq.comm
theorem sm_neg {x y : Int} (hx : -1 ≤ x ∧ x ≤ 1) (hy : -1 ≤ y ∧ y ≤ 1) : (y == wrap64 (x * -1)) = (x == wrap64 (-1 * y)) := by
  rw [(wr_small hx).2.1, (wr_small hy).2.2]
  rw [Bool.eq_iff_iff, beq_iff_eq, beq_iff_eq]
  omega
theorem eqTim_pos (l : List S53) (hl : l.length ≤ 3) (i j : Nat) : eqTim (mk3 l j) (mk3 l i) 1 = (refMark l i == refMark l j) := by
  have h0 : ((0 : Int) == wrap64 (0 * 1)) = true := by rw [(wr_small (v := 0) (by omega)).1]; rfl
  have hn : (([] : List Int) == []) = true := rfl
  match l, hl with
  | [], _ => simp only [eqTim, mk3, refMark, List.map_nil, List.getD_nil, h0, hn, Bool.and_true]
  | [a], _ => simp only [eqTim, mk3, refMark, List.map_cons, List.map_nil, List.getD_cons_zero, List.getD_cons_succ, List.getD_nil, h0, sm_pos (markOf_small _ _), List.cons_beq_cons, hn, Bool.and_true]
  | [a, b], _ => simp only [eqTim, mk3, refMark, List.map_cons, List.map_nil, List.getD_cons_zero, List.getD_cons_succ, List.getD_nil, h0, sm_pos (markOf_small _ _), List.cons_beq_cons, hn, Bool.and_true]
  | [a, b, c], _ => simp only [eqTim, mk3, refMark, List.map_cons, List.map_nil, List.getD_cons_zero, List.getD_cons_succ, List.getD_nil, h0, sm_pos (markOf_small _ _), List.cons_beq_cons, hn, Bool.and_true]
theorem eqTim_neg (l : List S53) (hl : l.length ≤ 3) (i j : Nat) : eqTim (mk3 l j) (mk3 l i) (-1) = (refMark l i == (refMark l j).map fun y => wrap64 (-1 * y)) := by
  have h0 : ((0 : Int) == wrap64 (0 * -1)) = true := by rw [(wr_small (v := 0) (by omega)).2.1]; rfl
  have hn : (([] : List Int) == []) = true := rfl
  match l, hl with
  | [], _ => simp only [eqTim, mk3, refMark, List.map_nil, List.getD_nil, h0, hn, Bool.and_true]
  | [a], _ => simp only [eqTim, mk3, refMark, List.map_cons, List.map_nil, List.getD_cons_zero, List.getD_cons_succ, List.getD_nil, h0, sm_neg (markOf_small _ _) (markOf_small _ _), List.cons_beq_cons, hn, Bool.and_true]
  | [a, b], _ => simp only [eqTim, mk3, refMark, List.map_cons, List.map_nil, List.getD_cons_zero, List.getD_cons_succ, List.getD_nil, h0, sm_neg (markOf_small _ _) (markOf_small _ _), List.cons_beq_cons, hn, Bool.and_true]
  | [a, b, c], _ => simp only [eqTim, mk3, refMark, List.map_cons, List.map_nil, List.getD_cons_zero, List.getD_cons_succ, List.getD_nil, h0, sm_neg (markOf_small _ _) (markOf_small _ _), List.cons_beq_cons, hn, Bool.and_true]
theorem pair_eq (l : List S53) (hl : l.length ≤ 3) (i j : Nat) : (eqTim (mk3 l j) (mk3 l i) 1 || eqTim (mk3 l j) (mk3 l i) (-1)) = pairB l i j := by
  rw [eqTim_pos l hl, eqTim_neg l hl]; rfl
theorem badJ_none (m : S70) (i : Int) : ∀ (os : List S70) (j : Int), (badJ m i os j).isNone = !(os.any fun o => eqTim o m 1 || eqTim o m (-1))
  | [], _ => rfl
  | o :: os, j => by
    rw [badJ, List.any_cons]
    cases h1 : eqTim o m 1 with
    | true => rfl
    | false =>
      cases h2 : eqTim o m (-1) with
      | true => rfl
      | false =>
        rw [if_neg (by simp), if_neg (by simp), badJ_none m i os]
        rfl
theorem badI_none (l : List S53) (hl : l.length ≤ 3) (n : Nat) : ∀ (d i : Nat), i + d = n →
    (badI ((List.range n).map (mk3 l)) (((List.range n).map (mk3 l)).drop i) i).isNone = telB l d i
  | 0, i, h => by
    rw [List.drop_eq_nil_of_le (by simp; omega)]
    rfl
  | d + 1, i, h => by
    have ih := badI_none l hl n d (i + 1) (by omega)
    have ht : (((List.range n).map (mk3 l)).take i) = (List.range i).map (mk3 l) := by
      rw [← List.map_take, List.take_range, Nat.min_eq_left (by omega)]
    have hd : ((List.range n).map (mk3 l)).drop i = mk3 l i :: ((List.range n).map (mk3 l)).drop (i + 1) := by
      rw [List.drop_eq_getElem_cons (by simp; omega)]
      simp
    have hj : (badJ (mk3 l i) i ((List.range i).map (mk3 l)) 0).isNone = !((List.range' 0 i).any (pairB l i)) := by
      rw [badJ_none, List.any_map, List.range_eq_range']
      congr 2
      funext j
      exact pair_eq l hl i j
    rw [hd, badI, telB_succ, ht, isZ_mk l i hl]
    cases (refMark l i).all (· == 0) with
    | true => rfl
    | false =>
      rw [if_neg (by simp), if_neg (by simp)]
      generalize hq : badJ (mk3 l i) i ((List.range i).map (mk3 l)) 0 = q at *
      cases q with
      | none =>
        have : (List.range' 0 i).any (pairB l i) = false := by simpa using hj
        rw [this, if_neg (by simp)]
        exact ih
      | some v =>
        have : (List.range' 0 i).any (pairB l i) = true := by simpa using hj
        rw [this, if_pos rfl]
        rfl
theorem badOut_some (r : Option (Int × Int × Int × Int)) : (badOut r).2.2.2.2 = !r.isNone := by
  match r with
  | none => rfl
  | some (a, b, c, d) => rfl
theorem okP_pos {lots : Int} {l : List S53} (h : OkP lots l) : ∀ y, y ∈ l → (∀ x, x ∈ y.f0 → 0 ≤ x) ∧ ∀ x, x ∈ y.f1 → 0 ≤ x :=
  fun y hy => ⟨fun x hx => ((h.each y hy).left x hx).1, fun x hx => ((h.each y hy).right x hx).1⟩
theorem badI_tel {lots : Int} {l : List S53} (hp : pErr lots l = 0) : (badI (marksL lots l) (marksL lots l) 0).isNone = telB l lots.toNat 0 := by
  have ok := pErr_ok hp
  rw [marksL_mk lots l (okP_pos ok)]
  have := badI_none l ok.few lots.toNat lots.toNat 0 (by omega)
  simpa using this
theorem bad_tel {lots : Int} {l : List S53} (hp : pErr lots l = 0) : ∃ a b c d, weigh_bad.f lots l = some (a, b, c, d, !telB l lots.toNat 0) := by
  unfold weigh_bad.f
  rw [if_pos hp]
  have hb : (badOut (badI (marksL lots l) (marksL lots l) 0)).2.2.2.2 = !telB l lots.toNat 0 := by rw [badOut_some, badI_tel hp]
  generalize badOut (badI (marksL lots l) (marksL lots l) 0) = r at *
  obtain ⟨a, b, c, d, e⟩ := r
  obtain rfl : e = _ := hb
  exact ⟨a, b, c, d, rfl⟩
theorem Tells_f (lots : Int) (l : List S53) : weigh_Tells.f lots l = some (if pErr lots l = 0 then (telB l lots.toNat 0, 0) else (false, pErr lots l)) := by
  unfold weigh_Tells.f weigh_Validate.f
  rw [Option.bind_some]
  by_cases hp : pErr lots l = 0
  · rw [if_pos hp, if_pos hp]
    obtain ⟨a, b, c, d, h⟩ := bad_tel hp
    rw [h, Option.bind_some, Bool.not_not]
  · rw [if_neg hp, if_neg hp]
end Go.Proofs.Ytdbeochifofdoaa.X
end

section
/-! weigh.FromMarks. -/
namespace Go.Proofs.Ytdbeochifofdoaa.X
open Go.RowKit Go.Proofs.YtdbeochifofdoaaW.PrintWords Go.Proofs.YtdbeochifofdoaaW.PrintLast Go.Proofs.YtdbeochifofdoaaW.PrintMore
set_option linter.unusedVariables false
set_option linter.unusedSimpArgs false

/-- The numbers, from n on, of the marks that have s at k. -/
def sideI (k : Nat) (s : Int) : Nat → List (List Int) → List Int
  | _, [] => []
  | n, m :: q => if m.getD k 0 = s then (n : Int) :: sideI k s (n + 1) q else sideI k s (n + 1) q
end Go.Proofs.Ytdbeochifofdoaa.X
end

section
/-! Marks, and the plan of marks. -/
namespace Go.Proofs.Ytdbeochifofdoaa.X
open Go.RowKit Go.Proofs.YtdbeochifofdoaaW.PrintWords Go.Proofs.YtdbeochifofdoaaW.PrintLast
set_option linter.unusedVariables false
set_option linter.unusedSimpArgs false

/-- The marks of the lots. -/
def marksV (lots : Int) (l : List S53) : List (List Int) := (List.range lots.toNat).map fun n => refMark l (n : Nat)
/-- An ascending list of numbers below c. -/
theorem asc_of_set (c : Int) : ∀ (xs : List Int) (p : Option Int), setFrom c p xs = true → (∀ x, x ∈ xs → 0 ≤ x ∧ x < c ∧ ∀ q, p = some q → q < x) ∧ xs.Pairwise (· < ·)
  | [], p, _ => ⟨fun x hx => (by cases hx), List.Pairwise.nil⟩
  | x :: xs, p, h => by
    rw [setFrom_cons] at h
    simp only [Bool.and_eq_true, decide_eq_true_eq] at h
    obtain ⟨⟨⟨h0, h1⟩, h2⟩, h3⟩ := h
    have ih := asc_of_set c xs (some x) h3
    have hpx : ∀ q, p = some q → q < x := by
      intro q hq
      subst hq
      simpa [aboveB] using h2
    refine ⟨fun y hy => ?_, List.Pairwise.cons (fun y hy => (ih.1 y hy).2.2 x rfl) ih.2⟩
    rcases List.mem_cons.1 hy with rfl | hy
    · exact ⟨h0, by omega, hpx⟩
    · have := ih.1 y hy
      exact ⟨this.1, this.2.1, fun q hq => by have := this.2.2 x rfl; have := hpx q hq; omega⟩
theorem filter_asc : ∀ (d lo : Nat) (xs : List Int), xs.Pairwise (· < ·) → (∀ x, x ∈ xs → (lo : Int) ≤ x ∧ x < ((lo + d : Nat) : Int)) → ((List.range' lo d).filter (fun (n : Nat) => xs.contains (n : Int))).map (fun n => ((n : Nat) : Int)) = xs
  | 0, lo, xs, _, hb => by
    match xs, hb with
    | [], _ => rfl
    | x :: xs, hb =>
      have := hb x List.mem_cons_self
      omega
  | d + 1, lo, [], _, _ => by simp
  | d + 1, lo, x :: xs, hp, hb => by
    rw [List.pairwise_cons] at hp
    have hx := hb x List.mem_cons_self
    rw [List.range'_succ, List.filter_cons]
    by_cases he : (lo : Int) = x
    · have hc : (x :: xs).contains (lo : Int) = true := by simp [he]
      rw [if_pos hc, List.map_cons]
      have ih := filter_asc d (lo + 1) xs hp.2 (fun y hy => by
        have h1 := hp.1 y hy
        have h2 := hb y (List.mem_cons_of_mem _ hy)
        omega)
      rw [he]
      congr 1
      rw [← ih]
      congr 1
      rw [ih]
      refine List.filter_congr fun n hn => ?_
      rw [List.mem_range'_1] at hn
      rw [List.contains_cons]
      have : ((n : Int) == x) = false := by rw [beq_eq_false_iff_ne]; omega
      rw [this, Bool.false_or]
    · have hc : (x :: xs).contains (lo : Int) = false := by
        rw [List.contains_eq_any_beq, List.any_eq_false]
        intro y hy
        have : (lo : Int) ≠ y := by
          rcases List.mem_cons.1 hy with rfl | hy
          · exact he
          · have := hp.1 y hy
            omega
        simpa using this
      rw [if_neg (by rw [hc]; simp)]
      exact filter_asc d (lo + 1) (x :: xs) (List.pairwise_cons.2 hp) (fun y hy => by
        have h2 := hb y hy
        rcases List.mem_cons.1 hy with rfl | hy
        · omega
        · have := hp.1 y hy
          omega)
theorem sideI_map (k : Nat) (s : Int) (g : Nat → List Int) : ∀ (m n : Nat), sideI k s n ((List.range' n m).map g) = ((List.range' n m).filter (fun j => (g j).getD k 0 == s)).map (fun n => ((n : Nat) : Int))
  | 0, n => by simp [sideI]
  | m + 1, n => by
    rw [List.range'_succ, List.map_cons, List.filter_cons]
    unfold sideI
    rw [sideI_map k s g m (n + 1)]
    by_cases h : (g n).getD k 0 = s
    · rw [if_pos h, if_pos (beq_iff_eq.2 h)]; rfl
    · rw [if_neg h, if_neg (by simpa using h)]
theorem refMark_get (l : List S53) (n : Int) (k : Nat) (hk : k < l.length) : (refMark l n).getD k 0 = markOf n (l.getD k z53) := by
  simp [refMark, List.getD_eq_getElem?_getD, List.getElem?_map, List.getElem?_eq_getElem hk]
/-- The sides of a weighing, out of the marks. -/
theorem side_left {lots : Int} {y : S53} (h : OkW lots y) (hl : 0 ≤ lots) : ((List.range' 0 lots.toNat).filter (fun (n : Nat) => markOf (n : Int) y == 1)).map (fun n => ((n : Nat) : Int)) = y.f0 := by
  have ha := asc_of_set lots y.f0 none h.lset
  have e := filter_asc lots.toNat 0 y.f0 ha.2 (fun x hx => by have := ha.1 x hx; omega)
  refine (congrArg (List.map fun (n : Nat) => (n : Int)) (List.filter_congr fun n hn => ?_)).trans e
  unfold markOf
  cases h1 : y.f1.contains (n : Int) with
  | true =>
    have : y.f0.contains (n : Int) = false := by
      cases h0 : y.f0.contains (n : Int) with
      | false => rfl
      | true => exact absurd (by simpa using h1) (h.apart _ (by simpa using h0))
    rw [this]; rfl
  | false => cases y.f0.contains (n : Int) <;> rfl
theorem side_right {lots : Int} {y : S53} (h : OkW lots y) (hl : 0 ≤ lots) : ((List.range' 0 lots.toNat).filter (fun (n : Nat) => markOf (n : Int) y == -1)).map (fun n => ((n : Nat) : Int)) = y.f1 := by
  have ha := asc_of_set lots y.f1 none h.rset
  have e := filter_asc lots.toNat 0 y.f1 ha.2 (fun x hx => by have := ha.1 x hx; omega)
  refine (congrArg (List.map fun (n : Nat) => (n : Int)) (List.filter_congr fun n hn => ?_)).trans e
  unfold markOf
  cases y.f1.contains (n : Int) with
  | true => rfl
  | false => cases y.f0.contains (n : Int) <;> rfl
theorem sides {lots : Int} {l : List S53} (hp : pErr lots l = 0) (k : Nat) (hk : k < l.length) : sideI k 1 0 (marksV lots l) = (l.getD k z53).f0 ∧ sideI k (-1) 0 (marksV lots l) = (l.getD k z53).f1 := by
  have ok := pErr_ok hp
  have hlo := ok.lo
  have hw := ok.each _ (mem_getD z53 l k hk)
  unfold marksV
  rw [List.range_eq_range', sideI_map, sideI_map]
  simp only [refMark_get l _ k hk]
  exact ⟨side_left hw (by omega), side_right hw (by omega)⟩
end Go.Proofs.Ytdbeochifofdoaa.X
end

section
/-! weigh.Mirror. -/
namespace Go.Proofs.Ytdbeochifofdoaa.X
open Go.RowKit Go.Proofs.YtdbeochifofdoaaW.PrintWords Go.Proofs.YtdbeochifofdoaaW.PrintLast Go.Proofs.YtdbeochifofdoaaW.PrintMore
set_option linter.unusedVariables false
set_option linter.unusedSimpArgs false

theorem ok_short {lots : Int} {l : List S53} (hp : pErr lots l = 0) : ∀ y, y ∈ l → y.f0.length ≤ 13 ∧ y.f1.length ≤ 13 := by
  intro y hy
  have ok := pErr_ok hp
  have hw := ok.each y hy
  have hlo := ok.lo
  have hhi := ok.hi
  have l1 := congrArg List.length (side_left hw (by omega))
  have l2 := congrArg List.length (side_right hw (by omega))
  rw [List.length_map] at l1 l2
  have f1 := List.length_filter_le (fun (n : Nat) => markOf (n : Int) y == 1) (List.range' 0 lots.toNat)
  have f2 := List.length_filter_le (fun (n : Nat) => markOf (n : Int) y == -1) (List.range' 0 lots.toNat)
  rw [List.length_range'] at f1 f2
  omega
theorem copied_l0 (l : List S53) (hl : l.length ≤ 3) (hs : ∀ y, y ∈ l → y.f0.length ≤ 13 ∧ y.f1.length ≤ 13) : ∀ (d k i : Nat) (acc : List S53), i ≤ l.length → l.length - i = d → acc.length = i → d < k → weigh_copied.l0 k acc l (l.length : Int) i = some (acc ++ l.drop i)
  | 0, k + 1, i, acc, h1, h2, h3, h4 => by
    unfold weigh_copied.l0
    rw [if_neg (by omega), List.drop_eq_nil_of_le (by omega), List.append_nil]
  | d + 1, k + 1, i, acc, h1, h2, h3, h4 => by
    unfold weigh_copied.l0
    have hm := hs _ (mem_getD z53 l i (by omega))
    have ih := copied_l0 l hl hs d k (i + 1) (acc ++ [l.getD i z53]) (by omega) (by omega) (by simp [h3]) (by omega)
    rw [if_pos (by omega), if_pos (by omega), if_pos (by omega), show rd_T53 l (i : Int) = l.getD i z53 from rfl, show slices_Clone_int_int.f (l.getD i z53).f0 = some (l.getD i z53).f0 from by unfold slices_Clone_int_int.f; rw [if_pos (by omega)], Option.bind_some,
      show slices_Clone_int_int.f (l.getD i z53).f1 = some (l.getD i z53).f1 from by unfold slices_Clone_int_int.f; rw [if_pos (by omega)], Option.bind_some, if_pos (by omega), wrs i (by omega), show (⟨(l.getD i z53).f0, (l.getD i z53).f1⟩ : S53) = l.getD i z53 from rfl, ih, dropD z53 l i (by omega)]
    simp
theorem copied_f (l : List S53) (hl : l.length ≤ 3) (hs : ∀ y, y ∈ l → y.f0.length ≤ 13 ∧ y.f1.length ≤ 13) : weigh_copied.f 10 l = some l := by
  unfold weigh_copied.f
  have := copied_l0 l hl hs l.length 10 0 [] (by omega) (by omega) rfl (by omega)
  exact this
end Go.Proofs.Ytdbeochifofdoaa.X
end

section
/-! weigh.Rename. -/
namespace Go.Proofs.Ytdbeochifofdoaa.X
open Go.RowKit Go.Proofs.YtdbeochifofdoaaW.PrintWords Go.Proofs.YtdbeochifofdoaaW.PrintLast Go.Proofs.YtdbeochifofdoaaW.PrintMore
set_option linter.unusedVariables false
set_option linter.unusedSimpArgs false

def renL (tq l : List Int) : List Int := sortL (l.map fun n => rd tq n)
def renW (tq : List Int) (y : S53) : S53 := ⟨renL tq y.f0, renL tq y.f1⟩
def renP (tq : List Int) (l : List S53) : List S53 := l.map (renW tq)
/-- The error of other numbers. -/
def rErr (lots : Int) (l : List S53) (tq : List Int) : Int :=
  if pErr lots l = 0 then (if (tq.length : Int) = lots then (if (List.range lots.toNat).all (fun n => tq.contains (n : Int)) = true then 0 else 1) else 1) else pErr lots l
def weigh_Rename.f (a0 : Int) (l1 : List S53) (l2 : List Int) : Option (List S53 × Int) := some (if rErr a0 l1 l2 = 0 then (renP l2 l1, 0) else ([], rErr a0 l1 l2))
theorem sortR_len : ∀ (l ra : List Int), (sortR ra l).length = ra.length + l.length
  | [], ra => rfl
  | x :: l, ra => by
    show (sortR (insR x ra) l).length = _
    rw [sortR_len l (insR x ra), insR_len, List.length_cons]
    omega
theorem sortL_len (l : List Int) : (sortL l).length = l.length := by rw [sortL, List.length_reverse, sortR_len]; simp
theorem renL_len (tq l : List Int) : (renL tq l).length = l.length := by rw [renL, sortL_len, List.length_map]
theorem R_put {W : World} {base g n cap : Nat} {ok : Nat → Prop} {xs : List Int} (h : Kd.R (Kd.int .i64) 3 W base ok (.slice (some ⟨g, 0, none⟩) n cap) xs) (k : Nat) (x : Int) :
    Kd.R (Kd.int .i64) 3 (W.setCell ⟨g, k, none⟩ (.int .i64 x)) base ok (.slice (some ⟨g, 0, none⟩) n cap) (xs.set k x) := by
  have hn := (Kd.R_reads' h).1
  subst hn
  have ho := (own_store_of (Kd.own_of_R h) (k : Int) x).1
  rw [Int.toNat_natCast] at ho
  exact Kd.R_of_own (by rw [List.length_set]; exact ho) h.1
/-- The two sides of a weighing that is taken out of its plan: j of them are done. -/
structure Sds (tq : List Int) (base n : Nat) (co : Nat) (g : Nat) (xs : List S53) (i : Nat) (oki : Nat → Prop) (vl vr : Value) (y : S53) (gs : Nat) (W : World) (j : Nat) : Prop where
  left : Kd.R (Kd.int .i64) 3 W base (fun k => some k = vl.ownBlock) vl (if 0 < j then renL tq y.f0 else y.f0)
  right : Kd.R (Kd.int .i64) 3 W base (fun k => some k = vr.ownBlock) vr (if 1 < j then renL tq y.f1 else y.f1)
  hole : Kd.H k53a 53 W base (fun _ => True) (.slice (some ⟨g, 0, none⟩) n co) xs (i : Int) oki [vl, vr]
  row : W.heap[gs]? = some (.cells #[vl, vr] 43 (0, 0))
theorem Sds.step {tq : List Int} {base n co g : Nat} {xs : List S53} {i : Nat} {oki : Nat → Prop} {vl vr : Value} {y : S53} {gs : Nat} {W W' : World} {j : Nat} (h : Sds tq base n co g xs i oki vl vr y gs W j)
    (ha : ∀ b, vl.ownBlock = some b → vr.ownBlock = some b → False) (hl : ∀ k, vl.ownBlock = some k → oki k) (hr : ∀ k, vr.ownBlock = some k → oki k) (hj : j < 2) :
    ∃ v x, #[vl, vr][j]? = some v ∧ Kd.R (Kd.int .i64) 3 W base (fun k => some k = v.ownBlock) v x ∧ (x = y.f0 ∨ x = y.f1) ∧
      ∀ W', Kd.R (Kd.int .i64) 3 W' base (fun _ => True) v (renL tq x) → Kept W W' (fun k => some k = v.ownBlock) → Sds tq base n co g xs i oki vl vr y gs W' (j + 1) := by
  have hj2 : j = 0 ∨ j = 1 := by omega
  rcases hj2 with rfl | rfl
  · refine ⟨vl, y.f0, rfl, h.left, .inl rfl, fun W' h1 h2 => ⟨?_, ?_, ?_, ?_⟩⟩
    · rw [if_pos (by omega)]; exact Kd.R_tight rfl h1
    · rw [if_neg (by omega)]
      exact Kd.R_kept h.right h2 (fun k hk he => ha k he.symm hk.symm)
    · exact Kd.H_kept h.hole h2 (fun k _ hn he => hn (hl k he.symm))
    · exact blk_kept h.row h2 (Kd.R_ne h.left h.row (by decide))
  · refine ⟨vr, y.f1, rfl, h.right, .inr rfl, fun W' h1 h2 => ⟨?_, ?_, ?_, ?_⟩⟩
    · have := h.left
      rw [if_pos (by omega)] at this
      rw [if_pos (by omega)]
      exact Kd.R_kept this h2 (fun k hk he => ha k hk.symm he.symm)
    · rw [if_pos (by omega)]; exact Kd.R_tight rfl h1
    · exact Kd.H_kept h.hole h2 (fun k _ hn he => hn (hr k he.symm))
    · exact blk_kept h.row h2 (Kd.R_ne h.right h.row (by decide))
def mixP (tq : List Int) (l : List S53) (i : Nat) : List S53 := (l.take i).map (renW tq) ++ l.drop i
def mixL (tq l : List Int) (m : Nat) : List Int := (l.take m).map (fun n => rd tq n) ++ l.drop m
theorem mixP_len (tq : List Int) (l : List S53) (i : Nat) : (mixP tq l i).length = l.length := by simp [mixP]; omega
theorem mixL_len (tq l : List Int) (m : Nat) : (mixL tq l m).length = l.length := by simp [mixL]; omega
theorem mixP_get (tq : List Int) (l : List S53) (i : Nat) (h : i < l.length) : (mixP tq l i).getD i z53 = l.getD i z53 := by
  simp [mixP, List.getD_eq_getElem?_getD, List.getElem?_append_right, Nat.min_eq_left (Nat.le_of_lt h)]
theorem mixL_get (tq l : List Int) (m : Nat) (h : m < l.length) : (mixL tq l m).getD m 0 = l.getD m 0 := by
  simp [mixL, List.getD_eq_getElem?_getD, List.getElem?_append_right, Nat.min_eq_left (Nat.le_of_lt h)]
theorem mixP_set (tq : List Int) (l : List S53) (i : Nat) (h : i < l.length) : (mixP tq l i).set i (renW tq (l.getD i z53)) = mixP tq l (i + 1) := by
  have e : l.drop i = l.getD i z53 :: l.drop (i + 1) := dropD z53 l i h
  have e2 : l.take (i + 1) = l.take i ++ [l.getD i z53] := by rw [List.take_succ_eq_append_getElem h]; simp [List.getD_eq_getElem?_getD, List.getElem?_eq_getElem h]
  rw [mixP, mixP, e, e2, List.set_append_right _ _ (by simp; omega)]
  simp [Nat.min_eq_left (Nat.le_of_lt h)]
theorem mixL_set (tq l : List Int) (m : Nat) (h : m < l.length) : (mixL tq l m).set m (rd tq (l.getD m 0)) = mixL tq l (m + 1) := by
  have e : l.drop m = l.getD m 0 :: l.drop (m + 1) := dropD 0 l m h
  have e2 : l.take (m + 1) = l.take m ++ [l.getD m 0] := by rw [List.take_succ_eq_append_getElem h]; simp [List.getD_eq_getElem?_getD, List.getElem?_eq_getElem h]
  rw [mixL, mixL, e, e2, List.set_append_right _ _ (by simp; omega)]
  simp [Nat.min_eq_left (Nat.le_of_lt h)]
theorem mixL_end (tq l : List Int) : mixL tq l l.length = l.map fun n => rd tq n := by simp [mixL]
theorem mixP_end (tq : List Int) (l : List S53) : mixP tq l l.length = renP tq l := by simp [mixP, renP]
theorem filter_two {α : Type} (l : List α) (p q : α → Bool) (h : ∀ a, p a = true → q a = true → False) : (l.filter p).length + (l.filter q).length ≤ l.length := by
  induction l with
  | nil => simp
  | cons a l ih =>
    rw [List.filter_cons, List.filter_cons]
    have := h a
    cases hp : p a <;> cases hq : q a <;> simp_all <;> omega
theorem side_short {lots : Int} {y : S53} (h : OkW lots y) (hh : lots ≤ 13) : y.f0.length ≤ 12 ∧ y.f1.length ≤ 12 := by
  have he := h.even
  by_cases hlo : 0 ≤ lots
  · have l1 := congrArg List.length (side_left h hlo)
    have l2 := congrArg List.length (side_right h hlo)
    rw [List.length_map] at l1 l2
    have hs := filter_two (List.range' 0 lots.toNat) (fun (n : Nat) => markOf (n : Int) y == 1) (fun (n : Nat) => markOf (n : Int) y == -1) (fun n h1 h2 => by simp only [beq_iff_eq] at h1 h2; omega)
    rw [List.length_range'] at hs
    omega
  · have e0 : y.f0 = [] := List.eq_nil_iff_forall_not_mem.2 (fun n hn => by have := h.left n hn; omega)
    rw [e0] at he
    rw [e0]
    simp only [List.length_nil] at he ⊢
    omega
set_option maxHeartbeats 4000000 in
set_option maxRecDepth 100000 in
theorem weigh_Rename.calls (a0 : Int) (A1 : Option Addr) (c1 : Nat) (l1 : List S53) (A2 : Option Addr) (c2 : Nat) (l2 : List Int) (r1 : List S53) (r2 : Int) (w : World) (hr1 : Kd.C k53 w A1 l1.length l1) (hc1 : l1.length ≤ c1) (hr2 : Kd.C (Kd.int .i64) w A2 l2.length l2) (hc2 : l2.length ≤ c2) (h : weigh_Rename.f a0 l1 l2 = some (r1, r2)) :
    Calls Try.prog 76 #[.int .i64 a0, .slice A1 l1.length c1, .slice A2 l2.length c2] w fun e w' => ∃ v0_ : Value, e = .returned (.tuple #[v0_, .int .i64 r2]) ∧ Kd.N k53 53 w' w.heap.size (fun k_ => w.heap.size ≤ k_) v0_ r1 ∧ Below w.heap.size w w' := by
  have HR := Aside0.mk hr1
  have HC := Aside0.mk hc1
  have HR2 := Aside0.mk hr2
  have HC2 := Aside0.mk hc2
  unfold weigh_Rename.f at h
  obtain ⟨q, hq⟩ : ∃ q, q = pErr a0 l1 := ⟨_, rfl⟩
  have HF := Aside0.mk (show weigh_Validate.f a0 l1 = some q by rw [hq]; rfl)
  have HQ := Aside0.mk hq
  have HH := Aside0.mk h
  clear hq hr1 hc1 hr2 hc2 h
  go_enter Try.func76, Try.ntmps76
  go_wp2_with fail
  refine (weigh_Validate.calls a0 A1 c1 l1 q _ HR.out HC.out HF.out).mono ?_
  rintro e w1 ⟨rfl, hb⟩
  have HB := Aside0.mk hb
  clear hb
  by_cases hz : q = 0
  rotate_left
  · have h := HH.out
    have hp : ¬ pErr a0 l1 = 0 := by rw [← HQ.out]; exact hz
    rw [show rErr a0 l1 l2 = q by unfold rErr; rw [if_neg hp, HQ.out], if_neg hz] at h
    simp only [Option.some.injEq, Prod.mk.injEq] at h
    obtain ⟨rfl, rfl⟩ := h
    have q1 : (q != 0) = true := by simpa using hz
    clear hp
    go_wp2
    go_ret2
    exact ⟨_, rfl, Kd.N_nil _ _ _ _ _, HB.out⟩
  subst hz
  have hp := HQ.out.symm
  have OK := Aside0.mk (pErr_ok hp)
  by_cases hlen : (l2.length : Int) = a0
  rotate_left
  · have h := HH.out
    rw [show rErr a0 l1 l2 = 1 by unfold rErr; rw [if_pos hp, if_neg hlen], if_neg (by decide)] at h
    simp only [Option.some.injEq, Prod.mk.injEq] at h
    obtain ⟨rfl, rfl⟩ := h
    have q1 : ((l2.length : Int) != a0) = true := by simpa using hlen
    clear hp hlen
    go_wp2
    go_ret2
    exact ⟨_, rfl, Kd.N_nil _ _ _ _ _, HB.out⟩
  subst hlen
  have q1 : ((l2.length : Int) != (l2.length : Int)) = false := by simp
  have h13 : l2.length ≤ 13 := by have := OK.out.hi; omega
  have HCo := fun (n : Int) => contains_f l2 n (by omega)
  have HCo' := Aside0.mk HCo
  have HP := Aside0.mk hp
  clear hp HCo
  go_wp2_with fail
  go_loopg [28] l2.length (fun gg s wr => ∃ i : Nat, i ≤ l2.length ∧ l2.length - i ≤ gg ∧ s = .int .i64 i ∧ Aside0 (∀ n, n < i → l2.contains (n : Int) = true) ∧ Aside0 (Below w.heap.size w wr))
  case atStart => exact ⟨0, by omega, by omega, rfl, ⟨fun n hn => absurd hn (by omega)⟩, HB⟩
  case round =>
    obtain ⟨wo, rfl⟩ : ∃ q : World, q = wr := ⟨_, rfl⟩
    obtain ⟨i, hi, hg, rfl, HA, HBw⟩ := hrel
    by_cases hil : i < l2.length
    · have hilz : (i : Int) < (l2.length : Int) := by omega
      go_wp2_with fail
      refine (slices_Contains_int_int.calls (l2.length + 1) A2 c2 l2 (i : Int) _ _ (Kd.C_below HR2.out HBw.out) HC2.out (HCo'.out i)).mono ?_
      rintro e w2 ⟨rfl, hd⟩
      have HB2 := Aside0.mk (HBw.out.trans ((Drawn0.below hd).mono HBw.out.size))
      clear hd
      cases hc : l2.contains (i : Int) with
      | false =>
        have h := HH.out
        have hall : ¬ ((List.range (l2.length : Int).toNat).all (fun n => l2.contains (n : Int)) = true) := by
          intro ha
          rw [List.all_eq_true] at ha
          have := ha i (by rw [List.mem_range]; omega)
          rw [hc] at this
          cases this
        rw [show rErr (l2.length : Int) l1 l2 = 1 by unfold rErr; rw [if_pos HP.out, if_pos rfl, if_neg hall], if_neg (by decide)] at h
        simp only [Option.some.injEq, Prod.mk.injEq] at h
        obtain ⟨rfl, rfl⟩ := h
        clear hall
        go_wp2
        go_ret2
        exact ⟨_, rfl, Kd.N_nil _ _ _ _ _, HB2.out⟩
      | true =>
        have HA2 := Aside0.mk (show ∀ n, n < i + 1 → l2.contains (n : Int) = true from fun n hn => by
          by_cases he : n = i
          · rw [he]; exact hc
          · exact HA.out n (by omega))
        clear hc
        go_wp2
        go_roundg (l2.length - (i + 1))
        case measure => omega
        case rel => exact ⟨i + 1, by omega, by omega, by go_num, HA2, HB2⟩
    · have hilz : ¬ (i : Int) < (l2.length : Int) := by omega
      have hie : i = l2.length := by omega
      have h := HH.out
      have hall : (List.range (l2.length : Int).toNat).all (fun n => l2.contains (n : Int)) = true := by
        rw [List.all_eq_true]
        intro n hn
        rw [List.mem_range] at hn
        exact HA.out n (by omega)
      rw [show rErr (l2.length : Int) l1 l2 = 0 by unfold rErr; rw [if_pos HP.out, if_pos rfl, if_pos hall], if_pos rfl] at h
      simp only [Option.some.injEq, Prod.mk.injEq] at h
      obtain ⟨rfl, rfl⟩ := h
      have hl3 : l1.length ≤ 3 := OK.out.few
      have HCF := Aside0.mk (copied_f l1 hl3 (ok_short HP.out))
      have HS13 := Aside0.mk (ok_short HP.out)
      clear hall hie HH HA HF HQ
      go_wp2_with fail
      refine (weigh_copied.callsA 10 A1 c1 l1 l1 _ (Kd.C_below HR.out HBw.out) HC.out HCF.out).mono ?_
      rintro e w2 ⟨v, rfl, hO, hb⟩
      obtain ⟨Ao, co, rfl⟩ := Kd.S_slice hO
      have HO := Aside0.mk hO
      have HB2 := Aside0.mk hb
      clear hO hb HB
      go_wp2_with fail
      go_loopg [40] l1.length (fun gg s wq => ∃ i : Nat, i ≤ l1.length ∧ l1.length - i ≤ gg ∧ s = .int .i64 i ∧ Aside0 (Kd.S k53a 53 wq wo.heap.size (fun _ => True) (.slice Ao l1.length co) (mixP l2 l1 i)) ∧ Aside0 (Below wo.heap.size wo wq))
      case atStart => exact ⟨0, by omega, by omega, rfl, ⟨by simpa [mixP] using HO.out⟩, HB2⟩
      case round =>
        obtain ⟨wq, rfl⟩ : ∃ q : World, q = wr := ⟨_, rfl⟩
        obtain ⟨i, hi, hg, rfl, HS, HBq⟩ := hrel
        by_cases hil : i < l1.length
        · have hilz : (i : Int) < (l1.length : Int) := by omega
          obtain ⟨g, cap, hv, hg1, hg2, _⟩ := Kd.S_form HS.out (by rw [mixP_len]; omega)
          injection hv with hv1 hv2 hv3
          subst hv1 hv3
          clear hv2
          obtain ⟨oki, c, hcl, ⟨hM, v0, v1, rfl, hap⟩, hcc, hfr, hoki, hH⟩ := Kd.S_elem HS.out z53 (i : Int) (by omega) hilz
          obtain ⟨v0', v1', hcs, hR0, hR1⟩ := k53_openM hM
          injection hcs with e1 e2
          injection e2 with e2 _
          subst e1 e2
          rw [Int.toNat_natCast, mixP_get _ _ _ hil] at hR0 hR1
          have hw := OK.out.each _ (mem_getD z53 l1 i hil)
          have h13b := HS13.out _ (mem_getD z53 l1 i hil)
          generalize hy : l1.getD i z53 = y at *
          obtain ⟨A0, cl0, rfl⟩ := Kd.R_slice hR0
          obtain ⟨A1x, cl1, rfl⟩ := Kd.R_slice hR1
          have k0 : wq.cell? ⟨g, i * 2, none⟩ = some (.slice A0 y.f0.length cl0) := by
            have := hcc 0 _ rfl
            rw [Int.toNat_natCast] at this
            exact this
          have k1 : wq.cell? ⟨g, i * 2 + 1, none⟩ = some (.slice A1x y.f1.length cl1) := by
            have := hcc 1 _ rfl
            rw [Int.toNat_natCast] at this
            exact this
          have HX := Aside0.mk hap
          have HY := Aside0.mk hy
          have HK0 := Aside0.mk (show ∀ k, (Value.slice A0 y.f0.length cl0).ownBlock = some k → oki k from hR0.1)
          have HK1 := Aside0.mk (show ∀ k, (Value.slice A1x y.f1.length cl1).ownBlock = some k → oki k from hR1.1)
          have HL0 := Aside0.mk (Kd.R_tight rfl hR0)
          have HL1 := Aside0.mk (Kd.R_tight rfl hR1)
          have HH := Aside0.mk hH
          have HW := Aside0.mk hw
          have H13 := Aside0.mk h13b
          clear hap hy hcc hfr hM hR0 hR1 hH hw h13b hoki hcl
          go_wp2_with fail
          have HS0 : Aside0 (Sds l2 wo.heap.size l1.length co g (mixP l2 l1 i) i oki (.slice A0 y.f0.length cl0) (.slice A1x y.f1.length cl1) y (wq.heap.size + 1) ((wq.alloc (.cells #[.slice A0 y.f0.length cl0, .slice A1x y.f1.length cl1] 53)).alloc (.cells #[.slice A0 y.f0.length cl0, .slice A1x y.f1.length cl1] 43)) 0) := by
            refine ⟨⟨?_, ?_, ?_, ?_⟩⟩
            · rw [if_neg (by omega)]; exact Kd.R_alloc (Kd.R_alloc HL0.out _) _
            · rw [if_neg (by omega)]; exact Kd.R_alloc (Kd.R_alloc HL1.out _) _
            · exact Kd.H_alloc (Kd.H_alloc HH.out _) _
            · have := blk_new (wq.alloc (.cells #[.slice A0 y.f0.length cl0, .slice A1x y.f1.length cl1] 53)) (.cells #[.slice A0 y.f0.length cl0, .slice A1x y.f1.length cl1] 43)
              rwa [show (wq.alloc (.cells #[.slice A0 y.f0.length cl0, .slice A1x y.f1.length cl1] 53)).heap.size = wq.heap.size + 1 by simp] at this
          have HB0 : Aside0 (Below wo.heap.size wo ((wq.alloc (.cells #[.slice A0 y.f0.length cl0, .slice A1x y.f1.length cl1] 53)).alloc (.cells #[.slice A0 y.f0.length cl0, .slice A1x y.f1.length cl1] 43))) := ⟨below_alloc (below_alloc HBq.out _) _⟩
          clear HL0 HL1 HH
          obtain ⟨gq, rfl⟩ : ∃ q : Nat, q = gk := ⟨_, rfl⟩
          go_loopg [50] 2 (fun gg s wj => ∃ j : Nat, j ≤ 2 ∧ 2 - j ≤ gg ∧ s = .int .i64 j ∧ Aside0 (Sds l2 wo.heap.size l1.length co g (mixP l2 l1 i) i oki (.slice A0 y.f0.length cl0) (.slice A1x y.f1.length cl1) y (wq.heap.size + 1) wj j) ∧ Aside0 (Below wo.heap.size wo wj))
          case atStart => exact ⟨0, by omega, by omega, rfl, HS0, HB0⟩
          case round =>
            obtain ⟨wj, rfl⟩ : ∃ q : World, q = wr := ⟨_, rfl⟩
            obtain ⟨gj, rfl⟩ : ∃ q : Nat, q = gk := ⟨_, rfl⟩
            obtain ⟨j, hj, hgj, rfl, HSd, HBj⟩ := hrel
            by_cases hj2 : j < 2
            · have hjz : (j : Int) < 2 := by omega
              obtain ⟨v, x, hv, hRx, hx, hnext⟩ := HSd.out.step (W' := wj) HX.out HK0.out HK1.out hj2
              obtain ⟨A, c, rfl⟩ := Kd.R_slice hRx
              have kc : wj.cell? ⟨wq.heap.size + 1, j, none⟩ = some (.slice A x.length c) := (blk_cell HSd.out.row j).trans hv
              have hx13 : x.length ≤ 13 := by rcases hx with rfl | rfl; exact H13.out.1; exact H13.out.2
              have hx12 : x.length ≤ 12 := by
                have h1 := HW.out
                rcases hx with rfl | rfl
                · have := side_short h1 OK.out.hi; omega
                · have := side_short h1 OK.out.hi; omega
              have hxb : ∀ n, n ∈ x → 0 ≤ n ∧ n < (l2.length : Int) := by rcases hx with rfl | rfl; exact HW.out.left; exact HW.out.right
              have HXB := Aside0.mk hxb
              have HN := Aside0.mk hnext
              have HRx := Aside0.mk hRx
              clear hv hx hxb hnext hRx
              go_wp2_with fail
              go_loopg [56] x.length (fun gg s wm => ∃ m : Nat, m ≤ x.length ∧ x.length - m ≤ gg ∧ s = .int .i64 m ∧ Aside0 (Kd.R (Kd.int .i64) 3 wm wo.heap.size (fun k => some k = (Value.slice A x.length c).ownBlock) (.slice A x.length c) (mixL l2 x m)) ∧ Aside0 (Kept wj wm (fun k => some k = (Value.slice A x.length c).ownBlock)) ∧ Aside0 (Below wo.heap.size wo wm))
              case atStart => exact ⟨0, by omega, by omega, rfl, ⟨by simpa [mixL] using HRx.out⟩, ⟨Kept.refl _ _⟩, HBj⟩
              case round =>
                obtain ⟨m, hm, hgm, rfl, HRm, HKm, HBm⟩ := hrel
                by_cases hmx : m < x.length
                · have hmz : (m : Int) < (x.length : Int) := by omega
                  obtain ⟨b, cap, hv, hb1, hb2, cells, hcells⟩ := Kd.R_form HRm.out (by rw [mixL_len]; omega)
                  injection hv with hv1 hv2 hv3
                  subst hv1 hv3
                  clear hv2
                  have hC := (Kd.R_reads' HRm.out).2.2
                  rw [mixL_len] at hC
                  obtain ⟨ad, had, ka⟩ := Kd.at_int hC (m : Int) (by omega) hmz
                  injection had with had
                  subst had
                  rw [Int.toNat_natCast, show rd (mixL l2 x m) (m : Int) = x.getD m 0 from mixL_get l2 x m hmx] at ka
                  have hxe := HXB.out _ (mem_getD 0 x m hmx)
                  have hset := mixL_set l2 x m hmx
                  have HR2m := Kd.C_below HR2.out (HBw.out.trans (HBm.out.mono HBw.out.size))
                  generalize x.getD m 0 = e at *
                  obtain ⟨he0, he1⟩ := hxe
                  obtain ⟨ad2, had2, ka2⟩ := Kd.at_int HR2m e he0 he1
                  have HA2 := Aside0.mk had2
                  obtain ⟨en, rfl⟩ := Int.eq_ofNat_of_zero_le he0
                  rw [Int.toNat_natCast] at ka2
                  generalize hz : rd l2 (en : Int) = z at *
                  have kb : wr.cell? ⟨b, m, none⟩ = some (.int .i64 (en : Int)) := by rw [add_plain] at ka; exact ka
                  have kf : wr.frozen? ⟨b, m, none⟩ = false := blk_frozen hcells _
                  have HRn := Aside0.mk (R_put HRm.out m z)
                  rw [hset] at HRn
                  have HKn := Aside0.mk (HKm.out.setCell (p := ⟨b, m, none⟩) (.inl rfl) (.int .i64 z))
                  have HBn := Aside0.mk ((below_set HBm.out hb1 : Below wo.heap.size wo (wr.setCell ⟨b, m, none⟩ (.int .i64 z))))
                  clear HR2m hC hset hz ka hcells hb1 hb2
                  go_wp2
                  go_roundg (x.length - (m + 1))
                  case measure => omega
                  case rel => exact ⟨m + 1, by omega, by omega, by go_num, HRn, HKn, HBn⟩
                · have hmz : ¬ (m : Int) < (x.length : Int) := by omega
                  obtain rfl : m = x.length := by omega
                  have hRm := HRm.out
                  rw [mixL_end] at hRm
                  have HRe := Aside0.mk hRm
                  clear hRm
                  go_wp2_with fail
                  refine (sort_calls _ (x.map fun n => rd l2 n) (by rw [List.length_map]; exact hx12) wo _ HBm.out HRe.out).mono ?_
                  rintro e w3 ⟨rfl, h1, h2, h3⟩
                  have HS3 := Aside0.mk (HN.out w3 h1 (HKm.out.then_ h3 (fun k hk => .inl hk)))
                  have HB3 := Aside0.mk h2
                  clear h1 h2 h3
                  go_wp2
                  go_roundg (2 - (j + 1))
                  case measure => omega
                  case rel => exact ⟨j + 1, by omega, by omega, by go_num, HS3, HB3⟩
            · have hjz : ¬ (j : Int) < 2 := by omega
              obtain rfl : j = 2 := by omega
              have hL := HSd.out.left
              have hRr := HSd.out.right
              rw [if_pos (by omega)] at hL hRr
              have hb := Kd.H_back HSd.out.hole (x' := renW l2 y) (okp := oki) ⟨k53_mkM wj wo.heap.size oki (renW l2 y) (by rw [show ((renW l2 y).f0) = renL l2 y.f0 from rfl]; exact Kd.R_mono hL (fun k hk => HK0.out k hk.symm)) (by exact Kd.R_mono hRr (fun k hk => HK1.out k hk.symm)), _, _, rfl, HX.out⟩ (fun _ h => h)
              rw [Int.toNat_natCast, ← HY.out, mixP_set l2 l1 i hil] at hb
              have HSn := Aside0.mk hb
              clear hL hRr hb
              go_wp2
              go_roundg (l1.length - (i + 1))
              case measure => omega
              case rel => exact ⟨i + 1, by omega, by omega, by go_num, HSn, HBj⟩
        · have hilz : ¬ (i : Int) < (l1.length : Int) := by omega
          obtain rfl : i = l1.length := by omega
          have hE := HS.out
          rw [mixP_end] at hE
          have HE := Aside0.mk hE
          clear hE
          go_wp2
          go_ret2
          have h := Kd.N_lower (Kd.S_N (Kd.S_mono (ok' := fun k_ => w.heap.size ≤ k_) (Kd.S_bound HE.out) (fun k hk => Nat.le_trans HBw.out.size hk.2.1))) HBw.out.size
          exact ⟨_, rfl, h, HBw.out.trans (HBq.out.mono HBw.out.size)⟩
end Go.Proofs.Ytdbeochifofdoaa.X
end

section
-- Written by a program of this session (wip/hook.py, which runs the kit's print.py with contracts proved by hand). Not trusted: Lean checks it.
namespace Go.Proofs.Ytdbeochifofdoaa.X
open Go.RowKit Go.Proofs.YtdbeochifofdoaaW.PrintWords Go.Proofs.YtdbeochifofdoaaW.PrintLast Go.Proofs.YtdbeochifofdoaaW.PrintMore
attribute [local go_sem] max2_int min2_int max_two min_two max_three min_three max_four min_four   -- for this text's walks alone
set_option linter.unusedVariables false
set_option linter.unusedSimpArgs false

/-! ### verditerlaw06_weighRenames: function 42 -/
mutual
def verditerlaw06_weighRenames.j0 : Nat → Int → List (S53) → List Int → Bool → Option (Bool)
  | 0, _, _, _, _ => none
  | k + 1, x0, x1, x2, x21 => if x21 = true then ((verditerlaw06_known.f k).bind fun t830 => (some t830)) else ((verditerref06_Rename.f k x0 x1 x2).bind fun bt831 => ((weigh_Rename.f x0 x1 x2).bind fun bt835 => (if bt835.2 = bt831.2 then ((verditerref06_Same.f k bt835.1 bt831.1).bind fun t839 => (verditerlaw06_weighRenames.j1 k x0 x1 bt835.1 bt835.2 (!t839))) else (verditerlaw06_weighRenames.j1 k x0 x1 bt835.1 bt835.2 true))))
def verditerlaw06_weighRenames.j1 : Nat → Int → List (S53) → List (S53) → Int → Bool → Option (Bool)
  | 0, _, _, _, _, _ => none
  | k + 1, x0, x1, x9, x10, x45 => if x45 = true then (some false) else ((weigh_Tells.f x0 x1).bind fun bt840 => ((weigh_Tells.f x0 x9).bind fun bt842 => (if x10 = 0 then (if bt840.2 = 0 then (if bt842.2 = 0 then (if (bt840.1 == bt842.1) = true then ((verditerlaw06_known.f k).bind fun t844 => (some t844)) else (some false)) else (some false)) else (some false)) else ((verditerlaw06_known.f k).bind fun t845 => (some t845)))))
end
def verditerlaw06_weighRenames.f (k : Nat) (a0 : Int) (l1 : List (S53)) (l2 : List Int) : Option (Bool) := (verditerlaw06_Long.f k l1).bind fun t829 => (if t829 = true then (verditerlaw06_weighRenames.j0 k a0 l1 l2 true) else (verditerlaw06_weighRenames.j0 k a0 l1 l2 (decide ((l2.length : Int) > 100))))
set_option maxHeartbeats 8000000 in
set_option maxRecDepth 100000 in
theorem verditerlaw06_weighRenames.calls (k : Nat) (a0 : Int) (A1 : Option Addr) (c1 : Nat) (l1 : List (S53)) (A2 : Option Addr) (c2 : Nat) (l2 : List Int) (r : Bool) (w : World) (hr1 : Kd.C k53 w A1 l1.length l1) (hc1 : l1.length ≤ c1) (hr2 : Kd.C (Kd.int .i64) w A2 l2.length l2) (hc2 : l2.length ≤ c2) (h : verditerlaw06_weighRenames.f k a0 l1 l2 = some r) :
    Calls Try.prog 42 #[.int .i64 a0, .slice A1 l1.length c1, .slice A2 l2.length c2] w fun e w' => e = .returned (.bool r) ∧ Below w.heap.size w w' := by
  have HR1 := Aside0.mk hr1
  have HC1 := Aside0.mk hc1
  clear hr1 hc1
  have HR2 := Aside0.mk hr2
  have HC2 := Aside0.mk hc2
  clear hr2 hc2
  have HB := Aside0.mk (Below.refl w.heap.size w)
  have H : ((verditerlaw06_Long.f k l1).bind fun t829 => (if t829 = true then (verditerlaw06_weighRenames.j0 k a0 l1 l2 true) else (verditerlaw06_weighRenames.j0 k a0 l1 l2 (decide ((l2.length : Int) > 100))))) = some r := h
  clear h
  have HC4 := Aside0.mk H
  clear H
  go_enter Try.func42, Try.ntmps42
  go_upto_region 1 with (fail)
  go_cut [21] (fun v21 wc => ∃ (kq : Nat) (x21_3 : Bool), v21 = .bool x21_3 ∧ Aside0 (verditerlaw06_weighRenames.j0 kq a0 l1 l2 x21_3 = some r) ∧ Aside0 (kq ≤ k) ∧ Aside0 (Below w.heap.size w wc))
  case first =>
    have H := HC4.out
    clear HC4
    replace H := Option.bind_eq_some_iff.mp H
    obtain ⟨t829, A50, H⟩ := H
    replace H : (if t829 = true then (verditerlaw06_weighRenames.j0 k a0 l1 l2 true) else (verditerlaw06_weighRenames.j0 k a0 l1 l2 (decide ((l2.length : Int) > 100)))) = some r := H
    have A5 := Aside0.mk A50
    clear A50
    by_cases c6 : t829 = true
    · subst c6
      have H1 : (verditerlaw06_weighRenames.j0 k a0 l1 l2 true) = some r := by rw [if_pos rfl] at H; exact H
      clear H
      have H := H1
      clear H1
      have H' := Aside0.mk H
      clear H
      go_wp2_with (first | ((with_reducible refine gate_callee (f := 43) rfl ?_); refine goesL_ (some 16) rfl rfl Try.func43 (by kernel_rfl) rfl #[.slice A1 l1.length c1] rfl (by (try simp only [List.map_toArray, List.map_cons, List.map_nil]); first | done | rfl | (simp only [List.length_drop, List.length_take]; rfl)) ?_; (with_reducible refine (verditerlaw06_Long.calls k _ _ l1 true _ ?side1 ?side2 A5.out).mono ?_); (case side1 => repeat (first | exact (Kd.C_below HR1.out HB.out) | (with_reducible refine Kd.C_alloc ?_ _) | (with_reducible refine Kd.C_drewN ?_ _) | (with_reducible refine Kd.C_drew ?_))); (case side2 => exact HC1.out); rintro e w' ⟨rfl, ⟨nd, rfl⟩⟩; refine ⟨_, rfl, ?_⟩))
      go_meet
      case rel => exact ⟨_, (true), (by first | rfl | (simp; done) | (simp [*]; done)), H', ⟨by first | omega | exact Nat.le_refl _⟩, ⟨by repeat (first | (with_reducible first | exact HB.out | apply below_alloc | apply pw_below_drewN | apply below_drew1) | exact HB.out)⟩⟩
    · replace c6 := Bool.eq_false_iff.mpr c6
      subst c6
      have H1 : (verditerlaw06_weighRenames.j0 k a0 l1 l2 (decide ((l2.length : Int) > 100))) = some r := by rw [if_neg (show ¬ (false = true) by decide)] at H; exact H
      clear H
      have H := H1
      clear H1
      have H' := Aside0.mk H
      clear H
      go_wp2_with (first | ((with_reducible refine gate_callee (f := 43) rfl ?_); refine goesL_ (some 16) rfl rfl Try.func43 (by kernel_rfl) rfl #[.slice A1 l1.length c1] rfl (by (try simp only [List.map_toArray, List.map_cons, List.map_nil]); first | done | rfl | (simp only [List.length_drop, List.length_take]; rfl)) ?_; (with_reducible refine (verditerlaw06_Long.calls k _ _ l1 false _ ?side1 ?side2 A5.out).mono ?_); (case side1 => repeat (first | exact (Kd.C_below HR1.out HB.out) | (with_reducible refine Kd.C_alloc ?_ _) | (with_reducible refine Kd.C_drewN ?_ _) | (with_reducible refine Kd.C_drew ?_))); (case side2 => exact HC1.out); rintro e w' ⟨rfl, ⟨nd, rfl⟩⟩; refine ⟨_, rfl, ?_⟩))
      go_meet
      case rel => exact ⟨_, (decide ((l2.length : Int) > 100)), (by first | rfl | (simp; done) | (simp [*]; done)), H', ⟨by first | omega | exact Nat.le_refl _⟩, ⟨by repeat (first | (with_reducible first | exact HB.out | apply below_alloc | apply pw_below_drewN | apply below_drew1) | exact HB.out)⟩⟩
  case rest =>
    clear HC4
    try clear c1
    try clear c2
    try clear p2
    try clear c4
    try clear c6
    obtain ⟨kq, x21_3, rfl, HA, HJ3, HB⟩ := hcut
    cases kq with
    | zero => exact absurd HA.out (by simp [verditerlaw06_weighRenames.j0])
    | succ kj3 =>
      have H := HA.out
      clear HA
      simp only [verditerlaw06_weighRenames.j0] at H
      by_cases c7 : x21_3 = true
      · subst c7
        have H1 : ((verditerlaw06_known.f kj3).bind fun t830 => (some t830)) = some r := by rw [if_pos rfl] at H; exact H
        clear H
        have H := H1
        clear H1
        replace H := Option.bind_eq_some_iff.mp H
        obtain ⟨t830, A80, H⟩ := H
        replace H : (some t830) = some r := H
        have A8 := Aside0.mk A80
        clear A80
        obtain rfl := Option.some.inj H
        go_wp2_with (first | ((with_reducible refine gate_callee (f := 25) rfl ?_); refine goesL_ (some 22) rfl rfl Try.func25 (by kernel_rfl) rfl #[] rfl (by (try simp only [List.map_toArray, List.map_cons, List.map_nil]); first | done | rfl | (simp only [List.length_drop, List.length_take]; rfl)) ?_; (with_reducible refine (verditerlaw06_known.calls kj3  t830 _ A8.out).mono ?_); rintro e w9 ⟨rfl, hb⟩; refine ⟨_, rfl, ?_⟩; have n0_ := Aside0.mk (below_step (by repeat (first | (with_reducible first | exact HB.out | apply below_alloc | apply pw_below_drewN | apply below_drew1) | exact HB.out)) hb); clear HB; have HB := n0_; clear n0_; (try clear hb); (try clear hb2); (try clear hk); (try clear hi)))
        go_ret
        exact ⟨by first | rfl | (simp [errW_none, errW_some] <;> rfl) | (simp [*, errW_none, errW_some] <;> rfl), by repeat (first | (with_reducible first | exact HB.out | apply below_alloc | apply pw_below_drewN | apply below_drew1) | exact HB.out)⟩
      · replace c7 := Bool.eq_false_iff.mpr c7
        subst c7
        have H1 : ((verditerref06_Rename.f kj3 a0 l1 l2).bind fun bt831 => ((weigh_Rename.f a0 l1 l2).bind fun bt835 => (if bt835.2 = bt831.2 then ((verditerref06_Same.f kj3 bt835.1 bt831.1).bind fun t839 => (verditerlaw06_weighRenames.j1 kj3 a0 l1 bt835.1 bt835.2 (!t839))) else (verditerlaw06_weighRenames.j1 kj3 a0 l1 bt835.1 bt835.2 true)))) = some r := by rw [if_neg (show ¬ (false = true) by decide)] at H; exact H
        clear H
        have H := H1
        clear H1
        replace H := Option.bind_eq_some_iff.mp H
        obtain ⟨⟨t831, t832⟩, A100, H⟩ := H
        replace H : ((weigh_Rename.f a0 l1 l2).bind fun bt835 => (if bt835.2 = t832 then ((verditerref06_Same.f kj3 bt835.1 t831).bind fun t839 => (verditerlaw06_weighRenames.j1 kj3 a0 l1 bt835.1 bt835.2 (!t839))) else (verditerlaw06_weighRenames.j1 kj3 a0 l1 bt835.1 bt835.2 true))) = some r := H
        have A10 := Aside0.mk A100
        clear A100
        replace H := Option.bind_eq_some_iff.mp H
        obtain ⟨⟨t835, t838⟩, A110, H⟩ := H
        replace H : (if t838 = t832 then ((verditerref06_Same.f kj3 t835 t831).bind fun t839 => (verditerlaw06_weighRenames.j1 kj3 a0 l1 t835 t838 (!t839))) else (verditerlaw06_weighRenames.j1 kj3 a0 l1 t835 t838 true)) = some r := H
        have A11 := Aside0.mk A110
        clear A110
        have HC12 := Aside0.mk H
        clear H
        go_upto_region 5 with (first | ((with_reducible refine gate_callee (f := 75) rfl ?_); refine goesL_ (some 27) rfl rfl Try.func75 (by kernel_rfl) rfl #[.int .i64 a0, .slice A1 l1.length c1, .slice A2 l2.length c2] rfl (by (try simp only [List.map_toArray, List.map_cons, List.map_nil]); first | done | rfl | (simp only [List.length_drop, List.length_take]; rfl)) ?_; (with_reducible refine (verditerref06_Rename.calls kj3 a0 _ _ l1 _ _ l2 t831 t832 _ ?side1 ?side2 ?side3 ?side4 A10.out).mono ?_); (case side1 => repeat (first | exact (Kd.C_below HR1.out HB.out) | (with_reducible refine Kd.C_alloc ?_ _) | (with_reducible refine Kd.C_drewN ?_ _) | (with_reducible refine Kd.C_drew ?_))); (case side2 => exact HC1.out); (case side3 => repeat (first | exact (Kd.C_below HR2.out HB.out) | (with_reducible refine Kd.C_alloc ?_ _) | (with_reducible refine Kd.C_drewN ?_ _) | (with_reducible refine Kd.C_drew ?_))); (case side4 => exact HC2.out); rintro e w13 ⟨v833, rfl, ho0, hb⟩; refine ⟨_, rfl, ?_⟩; have n0_ := Aside0.mk (Kd.N_lower (Kd.N_mono (ok' := fun k_ => True) (Kd.S_N (Kd.S_bound ho0)) (fun k_ hk_ => trivial)) (below_size (by repeat (first | (with_reducible first | exact HB.out | apply below_alloc | apply pw_below_drewN | apply below_drew1) | exact HB.out)))); have n1_ := Aside0.mk (below_step (by repeat (first | (with_reducible first | exact HB.out | apply below_alloc | apply pw_below_drewN | apply below_drew1) | exact HB.out)) hb); clear HB; have HO834 := n0_; have HB := n1_; clear n0_ n1_; (try clear hb); (try clear hb2); (try clear hk); (try clear hi); (try clear ho0)) | ((with_reducible refine gate_callee (f := 76) rfl ?_); refine goesL_ (some 34) rfl rfl Try.func76 (by kernel_rfl) rfl #[.int .i64 a0, .slice A1 l1.length c1, .slice A2 l2.length c2] rfl (by (try simp only [List.map_toArray, List.map_cons, List.map_nil]); first | done | rfl | (simp only [List.length_drop, List.length_take]; rfl)) ?_; (with_reducible refine (weigh_Rename.calls a0 _ _ l1 _ _ l2 t835 t838 _ ?side1 ?side2 ?side3 ?side4 A11.out).mono ?_); (case side1 => repeat (first | exact (Kd.C_below HR1.out HB.out) | (with_reducible refine Kd.C_alloc ?_ _) | (with_reducible refine Kd.C_drewN ?_ _) | (with_reducible refine Kd.C_drew ?_))); (case side2 => exact HC1.out); (case side3 => repeat (first | exact (Kd.C_below HR2.out HB.out) | (with_reducible refine Kd.C_alloc ?_ _) | (with_reducible refine Kd.C_drewN ?_ _) | (with_reducible refine Kd.C_drew ?_))); (case side4 => exact HC2.out); rintro e w14 ⟨v836, rfl, ho0, hb⟩; refine ⟨_, rfl, ?_⟩; have n0_ := Aside0.mk (Kd.N_elder' (by (with_reducible repeat (first | apply Kd.N_alloc | apply Kd.N_drewN | apply Kd.N_drew)); exact HO834.out) (Kd.N_base ho0) hb); have n1_ := Aside0.mk (Kd.N_lower (Kd.N_mono (ok' := fun k_ => some k_ ≠ (v833 : Value).ownBlock) ho0 (fun k_ hk_ => (Kd.fresh' (Kd.N_lt (by (with_reducible repeat (first | apply Kd.N_alloc | apply Kd.N_drewN | apply Kd.N_drew)); exact HO834.out)) k_ hk_))) (below_size (by repeat (first | (with_reducible first | exact HB.out | apply below_alloc | apply pw_below_drewN | apply below_drew1) | exact HB.out)))); have n2_ := Aside0.mk (below_step (by repeat (first | (with_reducible first | exact HB.out | apply below_alloc | apply pw_below_drewN | apply below_drew1) | exact HB.out)) hb); clear HO834; clear HB; have HO834 := n0_; have HO837 := n1_; have HB := n2_; clear n0_ n1_ n2_; (try clear hb); (try clear hb2); (try clear hk); (try clear hi); (try clear ho0)))
        (try simp only [Act.put, List.setIfInBounds_toArray, List.set_cons_zero, List.set_cons_succ])
        go_cut [45] (fun v45 wc => ∃ (kq : Nat) (x45_11 : Bool), v45 = .bool x45_11 ∧ Aside0 (verditerlaw06_weighRenames.j1 kq a0 l1 t835 t838 x45_11 = some r) ∧ Aside0 (kq ≤ kj3) ∧ Aside0 (Kd.N k53 53 wc w.heap.size (fun _ => True) v836 t835) ∧ Aside0 (Below w.heap.size w wc))
        case first =>
          have H := HC12.out
          clear HC12
          by_cases c15 : t838 = t832
          · rw [if_pos c15] at H
            have c15b0 : (t838 == t832) = true := beq_iff_eq.mpr c15
            have c15b1 : (t838 != t832) = false := bne_eq_false_iff_eq.mpr c15
            clear c15
            (first | rw [c15b0] | (simp only [i64_w, i32_w]; rw [c15b0]) | skip)
            replace H := Option.bind_eq_some_iff.mp H
            obtain ⟨t839, A160, H⟩ := H
            replace H : (verditerlaw06_weighRenames.j1 kj3 a0 l1 t835 t838 (!t839)) = some r := H
            have A16 := Aside0.mk A160
            clear A160
            have H' := Aside0.mk H
            clear H
            obtain ⟨Ao17, co17, eo17⟩ := Kd.N_slice HO837.out
            subst eo17
            obtain ⟨Ao18, co18, eo18⟩ := Kd.N_slice HO834.out
            subst eo18
            go_wp2_with (first | (go_at_call 68; (with_reducible refine (verditerref06_Same.calls kj3 _ _ t835 _ _ t831 t839 _ ?side1 ?side2 ?side3 ?side4 A16.out).mono ?_); (case side1 => repeat (first | exact (Kd.N_reads' HO837.out).2.2 | (with_reducible refine Kd.C_alloc ?_ _) | (with_reducible refine Kd.C_drewN ?_ _) | (with_reducible refine Kd.C_drew ?_))); (case side2 => exact (Kd.N_reads' HO837.out).2.1); (case side3 => repeat (first | exact (Kd.N_reads' HO834.out).2.2 | (with_reducible refine Kd.C_alloc ?_ _) | (with_reducible refine Kd.C_drewN ?_ _) | (with_reducible refine Kd.C_drew ?_))); (case side4 => exact (Kd.N_reads' HO834.out).2.1); rintro e w' ⟨rfl, ⟨nd, rfl⟩⟩))
            go_meet
            case rel => exact ⟨_, (!t839), (by first | rfl | (simp; done) | (simp [*]; done)), H', ⟨by have := HJ3.out; first | omega | exact Nat.le_refl _⟩, ⟨by (with_reducible repeat (first | apply Kd.N_alloc | apply Kd.N_drewN | apply Kd.N_drew)); exact Kd.N_mono HO837.out (fun _ hk => trivial)⟩, ⟨by repeat (first | (with_reducible first | exact HB.out | apply below_alloc | apply pw_below_drewN | apply below_drew1) | exact HB.out)⟩⟩
          · rw [if_neg c15] at H
            have c15b0 : (t838 == t832) = false := beq_eq_false_iff_ne.mpr c15
            have c15b1 : (t838 != t832) = true := bne_iff_ne.mpr c15
            (first | rw [c15b0] | (simp only [i64_w, i32_w]; rw [c15b0]) | skip)
            have H' := Aside0.mk H
            clear H
            go_wp2
            go_meet
            case rel => exact ⟨_, (true), (by first | rfl | (simp; done) | (simp [*]; done)), H', ⟨by have := HJ3.out; first | omega | exact Nat.le_refl _⟩, ⟨by (with_reducible repeat (first | apply Kd.N_alloc | apply Kd.N_drewN | apply Kd.N_drew)); exact Kd.N_mono HO837.out (fun _ hk => trivial)⟩, ⟨by repeat (first | (with_reducible first | exact HB.out | apply below_alloc | apply pw_below_drewN | apply below_drew1) | exact HB.out)⟩⟩
        case rest =>
          clear HC12
          try clear c1
          try clear c2
          try clear p2
          try clear c4
          try clear c6
          try clear c7
          try clear c15
          try clear c15b0
          try clear c15b1
          try clear p2
          obtain ⟨kq, x45_11, rfl, HA, HJ11, HO_9, HB⟩ := hcut
          cases kq with
          | zero => exact absurd HA.out (by simp [verditerlaw06_weighRenames.j1])
          | succ kj11 =>
            have H := HA.out
            clear HA
            simp only [verditerlaw06_weighRenames.j1] at H
            by_cases c19 : x45_11 = true
            · subst c19
              have H1 : (some false) = some r := by rw [if_pos rfl] at H; exact H
              clear H
              have H := H1
              clear H1
              obtain rfl := Option.some.inj H
              go_wp2
              go_ret
              exact ⟨by first | rfl | (simp [errW_none, errW_some] <;> rfl) | (simp [*, errW_none, errW_some] <;> rfl), by repeat (first | (with_reducible first | exact HB.out | apply below_alloc | apply pw_below_drewN | apply below_drew1) | exact HB.out)⟩
            · replace c19 := Bool.eq_false_iff.mpr c19
              subst c19
              have H1 : ((weigh_Tells.f a0 l1).bind fun bt840 => ((weigh_Tells.f a0 t835).bind fun bt842 => (if t838 = 0 then (if bt840.2 = 0 then (if bt842.2 = 0 then (if (bt840.1 == bt842.1) = true then ((verditerlaw06_known.f kj11).bind fun t844 => (some t844)) else (some false)) else (some false)) else (some false)) else ((verditerlaw06_known.f kj11).bind fun t845 => (some t845))))) = some r := by rw [if_neg (show ¬ (false = true) by decide)] at H; exact H
              clear H
              have H := H1
              clear H1
              replace H := Option.bind_eq_some_iff.mp H
              obtain ⟨⟨t840, t841⟩, A200, H⟩ := H
              replace H : ((weigh_Tells.f a0 t835).bind fun bt842 => (if t838 = 0 then (if t841 = 0 then (if bt842.2 = 0 then (if (t840 == bt842.1) = true then ((verditerlaw06_known.f kj11).bind fun t844 => (some t844)) else (some false)) else (some false)) else (some false)) else ((verditerlaw06_known.f kj11).bind fun t845 => (some t845)))) = some r := H
              have A20 := Aside0.mk A200
              clear A200
              replace H := Option.bind_eq_some_iff.mp H
              obtain ⟨⟨t842, t843⟩, A210, H⟩ := H
              replace H : (if t838 = 0 then (if t841 = 0 then (if t843 = 0 then (if (t840 == t842) = true then ((verditerlaw06_known.f kj11).bind fun t844 => (some t844)) else (some false)) else (some false)) else (some false)) else ((verditerlaw06_known.f kj11).bind fun t845 => (some t845))) = some r := H
              have A21 := Aside0.mk A210
              clear A210
              by_cases c22 : t838 = 0
              · rw [if_pos c22] at H
                have c22b0 : (t838 == 0) = true := beq_iff_eq.mpr c22
                have c22b1 : (t838 != 0) = false := bne_eq_false_iff_eq.mpr c22
                clear c22
                by_cases c23 : t841 = 0
                · rw [if_pos c23] at H
                  have c23b0 : (t841 == 0) = true := beq_iff_eq.mpr c23
                  have c23b1 : (t841 != 0) = false := bne_eq_false_iff_eq.mpr c23
                  clear c23
                  by_cases c24 : t843 = 0
                  · rw [if_pos c24] at H
                    have c24b0 : (t843 == 0) = true := beq_iff_eq.mpr c24
                    have c24b1 : (t843 != 0) = false := bne_eq_false_iff_eq.mpr c24
                    clear c24
                    by_cases c25 : (t840 == t842) = true
                    · rw [if_pos c25] at H
                      have c25b0 : (t840 == t842) = true := c25
                      (try (have c25b1 : decide (t840 = t842) = true := by simpa using c25))
                      (try (have c25b2 : (t840 == t842) = true := by simpa using c25))
                      clear c25
                      replace H := Option.bind_eq_some_iff.mp H
                      obtain ⟨t844, A260, H⟩ := H
                      replace H : (some t844) = some r := H
                      have A26 := Aside0.mk A260
                      clear A260
                      obtain rfl := Option.some.inj H
                      go_wp2_with (first | ((with_reducible refine gate_callee (f := 44) rfl ?_); refine goesL_ (some 49) rfl rfl Try.func44 (by kernel_rfl) rfl #[.int .i64 a0, .slice A1 l1.length c1] rfl (by (try simp only [List.map_toArray, List.map_cons, List.map_nil]); first | done | rfl | (simp only [List.length_drop, List.length_take]; rfl)) ?_; (with_reducible refine (weigh_Tells.calls a0 _ _ l1 t840 t841 _ ?side1 ?side2 A20.out).mono ?_); (case side1 => repeat (first | exact (Kd.C_below HR1.out HB.out) | (with_reducible refine Kd.C_alloc ?_ _) | (with_reducible refine Kd.C_drewN ?_ _) | (with_reducible refine Kd.C_drew ?_))); (case side2 => exact HC1.out); rintro e w27 ⟨rfl, hb⟩; refine ⟨_, rfl, ?_⟩; have n0_ := Aside0.mk (Kd.N_below (by (with_reducible repeat (first | apply Kd.N_alloc | apply Kd.N_drewN | apply Kd.N_drew)); exact HO_9.out) hb); have n1_ := Aside0.mk (below_step (by repeat (first | (with_reducible first | exact HB.out | apply below_alloc | apply pw_below_drewN | apply below_drew1) | exact HB.out)) hb); clear HO_9; clear HB; have HO_9 := n0_; have HB := n1_; clear n0_ n1_; (try clear hb); (try clear hb2); (try clear hk); (try clear hi); obtain ⟨Ao28, co28, eo28⟩ := Kd.N_slice HO_9.out; subst eo28) | ((with_reducible refine gate_callee (f := 44) rfl ?_); refine goesL_ (some 55) rfl rfl Try.func44 (by kernel_rfl) rfl #[.int .i64 a0, .slice Ao28 t835.length co28] rfl (by (try simp only [List.map_toArray, List.map_cons, List.map_nil]); first | done | rfl | (simp only [List.length_drop, List.length_take]; rfl)) ?_; (with_reducible refine (weigh_Tells.calls a0 _ _ t835 t842 t843 _ ?side1 ?side2 A21.out).mono ?_); (case side1 => repeat (first | exact (Kd.N_reads' HO_9.out).2.2 | (with_reducible refine Kd.C_alloc ?_ _) | (with_reducible refine Kd.C_drewN ?_ _) | (with_reducible refine Kd.C_drew ?_))); (case side2 => exact (Kd.N_reads' HO_9.out).2.1); rintro e w29 ⟨rfl, hb⟩; refine ⟨_, rfl, ?_⟩; have n0_ := Aside0.mk (Kd.N_below (by (with_reducible repeat (first | apply Kd.N_alloc | apply Kd.N_drewN | apply Kd.N_drew)); exact HO_9.out) hb); have n1_ := Aside0.mk (below_step (by repeat (first | (with_reducible first | exact HB.out | apply below_alloc | apply pw_below_drewN | apply below_drew1) | exact HB.out)) hb); clear HO_9; clear HB; have HO_9 := n0_; have HB := n1_; clear n0_ n1_; (try clear hb); (try clear hb2); (try clear hk); (try clear hi)) | (go_at_call 25; (with_reducible refine (verditerlaw06_known.calls kj11  t844 _ A26.out).mono ?_); rintro e w30 ⟨rfl, hb⟩; have n0_ := Aside0.mk (Kd.N_below (by (with_reducible repeat (first | apply Kd.N_alloc | apply Kd.N_drewN | apply Kd.N_drew)); exact HO_9.out) hb); have n1_ := Aside0.mk (below_step (by repeat (first | (with_reducible first | exact HB.out | apply below_alloc | apply pw_below_drewN | apply below_drew1) | exact HB.out)) hb); clear HO_9; clear HB; have HO_9 := n0_; have HB := n1_; clear n0_ n1_; (try clear hb); (try clear hb2); (try clear hk); (try clear hi)))
                      go_ret
                      exact ⟨by first | rfl | (simp [errW_none, errW_some] <;> rfl) | (simp [*, errW_none, errW_some] <;> rfl), by repeat (first | (with_reducible first | exact HB.out | apply below_alloc | apply pw_below_drewN | apply below_drew1) | exact HB.out)⟩
                    · rw [if_neg c25] at H
                      have c25b0 : (t840 == t842) = false := by simpa using c25
                      (try (have c25b1 : decide (t840 = t842) = false := by simpa using c25))
                      (try (have c25b2 : (t840 == t842) = false := by simpa using c25))
                      (try (have c25b3 : ¬ (t840 = t842) := by simpa using c25))
                      clear c25
                      obtain rfl := Option.some.inj H
                      go_wp2_with (first | ((with_reducible refine gate_callee (f := 44) rfl ?_); refine goesL_ (some 49) rfl rfl Try.func44 (by kernel_rfl) rfl #[.int .i64 a0, .slice A1 l1.length c1] rfl (by (try simp only [List.map_toArray, List.map_cons, List.map_nil]); first | done | rfl | (simp only [List.length_drop, List.length_take]; rfl)) ?_; (with_reducible refine (weigh_Tells.calls a0 _ _ l1 t840 t841 _ ?side1 ?side2 A20.out).mono ?_); (case side1 => repeat (first | exact (Kd.C_below HR1.out HB.out) | (with_reducible refine Kd.C_alloc ?_ _) | (with_reducible refine Kd.C_drewN ?_ _) | (with_reducible refine Kd.C_drew ?_))); (case side2 => exact HC1.out); rintro e w31 ⟨rfl, hb⟩; refine ⟨_, rfl, ?_⟩; have n0_ := Aside0.mk (Kd.N_below (by (with_reducible repeat (first | apply Kd.N_alloc | apply Kd.N_drewN | apply Kd.N_drew)); exact HO_9.out) hb); have n1_ := Aside0.mk (below_step (by repeat (first | (with_reducible first | exact HB.out | apply below_alloc | apply pw_below_drewN | apply below_drew1) | exact HB.out)) hb); clear HO_9; clear HB; have HO_9 := n0_; have HB := n1_; clear n0_ n1_; (try clear hb); (try clear hb2); (try clear hk); (try clear hi); obtain ⟨Ao32, co32, eo32⟩ := Kd.N_slice HO_9.out; subst eo32) | ((with_reducible refine gate_callee (f := 44) rfl ?_); refine goesL_ (some 55) rfl rfl Try.func44 (by kernel_rfl) rfl #[.int .i64 a0, .slice Ao32 t835.length co32] rfl (by (try simp only [List.map_toArray, List.map_cons, List.map_nil]); first | done | rfl | (simp only [List.length_drop, List.length_take]; rfl)) ?_; (with_reducible refine (weigh_Tells.calls a0 _ _ t835 t842 t843 _ ?side1 ?side2 A21.out).mono ?_); (case side1 => repeat (first | exact (Kd.N_reads' HO_9.out).2.2 | (with_reducible refine Kd.C_alloc ?_ _) | (with_reducible refine Kd.C_drewN ?_ _) | (with_reducible refine Kd.C_drew ?_))); (case side2 => exact (Kd.N_reads' HO_9.out).2.1); rintro e w33 ⟨rfl, hb⟩; refine ⟨_, rfl, ?_⟩; have n0_ := Aside0.mk (Kd.N_below (by (with_reducible repeat (first | apply Kd.N_alloc | apply Kd.N_drewN | apply Kd.N_drew)); exact HO_9.out) hb); have n1_ := Aside0.mk (below_step (by repeat (first | (with_reducible first | exact HB.out | apply below_alloc | apply pw_below_drewN | apply below_drew1) | exact HB.out)) hb); clear HO_9; clear HB; have HO_9 := n0_; have HB := n1_; clear n0_ n1_; (try clear hb); (try clear hb2); (try clear hk); (try clear hi)))
                      go_ret
                      exact ⟨by first | rfl | (simp [errW_none, errW_some] <;> rfl) | (simp [*, errW_none, errW_some] <;> rfl), by repeat (first | (with_reducible first | exact HB.out | apply below_alloc | apply pw_below_drewN | apply below_drew1) | exact HB.out)⟩
                  · rw [if_neg c24] at H
                    have c24b0 : (t843 == 0) = false := beq_eq_false_iff_ne.mpr c24
                    have c24b1 : (t843 != 0) = true := bne_iff_ne.mpr c24
                    obtain rfl := Option.some.inj H
                    go_wp2_with (first | ((with_reducible refine gate_callee (f := 44) rfl ?_); refine goesL_ (some 49) rfl rfl Try.func44 (by kernel_rfl) rfl #[.int .i64 a0, .slice A1 l1.length c1] rfl (by (try simp only [List.map_toArray, List.map_cons, List.map_nil]); first | done | rfl | (simp only [List.length_drop, List.length_take]; rfl)) ?_; (with_reducible refine (weigh_Tells.calls a0 _ _ l1 t840 t841 _ ?side1 ?side2 A20.out).mono ?_); (case side1 => repeat (first | exact (Kd.C_below HR1.out HB.out) | (with_reducible refine Kd.C_alloc ?_ _) | (with_reducible refine Kd.C_drewN ?_ _) | (with_reducible refine Kd.C_drew ?_))); (case side2 => exact HC1.out); rintro e w34 ⟨rfl, hb⟩; refine ⟨_, rfl, ?_⟩; have n0_ := Aside0.mk (Kd.N_below (by (with_reducible repeat (first | apply Kd.N_alloc | apply Kd.N_drewN | apply Kd.N_drew)); exact HO_9.out) hb); have n1_ := Aside0.mk (below_step (by repeat (first | (with_reducible first | exact HB.out | apply below_alloc | apply pw_below_drewN | apply below_drew1) | exact HB.out)) hb); clear HO_9; clear HB; have HO_9 := n0_; have HB := n1_; clear n0_ n1_; (try clear hb); (try clear hb2); (try clear hk); (try clear hi); obtain ⟨Ao35, co35, eo35⟩ := Kd.N_slice HO_9.out; subst eo35) | ((with_reducible refine gate_callee (f := 44) rfl ?_); refine goesL_ (some 55) rfl rfl Try.func44 (by kernel_rfl) rfl #[.int .i64 a0, .slice Ao35 t835.length co35] rfl (by (try simp only [List.map_toArray, List.map_cons, List.map_nil]); first | done | rfl | (simp only [List.length_drop, List.length_take]; rfl)) ?_; (with_reducible refine (weigh_Tells.calls a0 _ _ t835 t842 t843 _ ?side1 ?side2 A21.out).mono ?_); (case side1 => repeat (first | exact (Kd.N_reads' HO_9.out).2.2 | (with_reducible refine Kd.C_alloc ?_ _) | (with_reducible refine Kd.C_drewN ?_ _) | (with_reducible refine Kd.C_drew ?_))); (case side2 => exact (Kd.N_reads' HO_9.out).2.1); rintro e w36 ⟨rfl, hb⟩; refine ⟨_, rfl, ?_⟩; have n0_ := Aside0.mk (Kd.N_below (by (with_reducible repeat (first | apply Kd.N_alloc | apply Kd.N_drewN | apply Kd.N_drew)); exact HO_9.out) hb); have n1_ := Aside0.mk (below_step (by repeat (first | (with_reducible first | exact HB.out | apply below_alloc | apply pw_below_drewN | apply below_drew1) | exact HB.out)) hb); clear HO_9; clear HB; have HO_9 := n0_; have HB := n1_; clear n0_ n1_; (try clear hb); (try clear hb2); (try clear hk); (try clear hi)))
                    go_ret
                    exact ⟨by first | rfl | (simp [errW_none, errW_some] <;> rfl) | (simp [*, errW_none, errW_some] <;> rfl), by repeat (first | (with_reducible first | exact HB.out | apply below_alloc | apply pw_below_drewN | apply below_drew1) | exact HB.out)⟩
                · rw [if_neg c23] at H
                  have c23b0 : (t841 == 0) = false := beq_eq_false_iff_ne.mpr c23
                  have c23b1 : (t841 != 0) = true := bne_iff_ne.mpr c23
                  obtain rfl := Option.some.inj H
                  go_wp2_with (first | ((with_reducible refine gate_callee (f := 44) rfl ?_); refine goesL_ (some 49) rfl rfl Try.func44 (by kernel_rfl) rfl #[.int .i64 a0, .slice A1 l1.length c1] rfl (by (try simp only [List.map_toArray, List.map_cons, List.map_nil]); first | done | rfl | (simp only [List.length_drop, List.length_take]; rfl)) ?_; (with_reducible refine (weigh_Tells.calls a0 _ _ l1 t840 t841 _ ?side1 ?side2 A20.out).mono ?_); (case side1 => repeat (first | exact (Kd.C_below HR1.out HB.out) | (with_reducible refine Kd.C_alloc ?_ _) | (with_reducible refine Kd.C_drewN ?_ _) | (with_reducible refine Kd.C_drew ?_))); (case side2 => exact HC1.out); rintro e w37 ⟨rfl, hb⟩; refine ⟨_, rfl, ?_⟩; have n0_ := Aside0.mk (Kd.N_below (by (with_reducible repeat (first | apply Kd.N_alloc | apply Kd.N_drewN | apply Kd.N_drew)); exact HO_9.out) hb); have n1_ := Aside0.mk (below_step (by repeat (first | (with_reducible first | exact HB.out | apply below_alloc | apply pw_below_drewN | apply below_drew1) | exact HB.out)) hb); clear HO_9; clear HB; have HO_9 := n0_; have HB := n1_; clear n0_ n1_; (try clear hb); (try clear hb2); (try clear hk); (try clear hi); obtain ⟨Ao38, co38, eo38⟩ := Kd.N_slice HO_9.out; subst eo38) | ((with_reducible refine gate_callee (f := 44) rfl ?_); refine goesL_ (some 55) rfl rfl Try.func44 (by kernel_rfl) rfl #[.int .i64 a0, .slice Ao38 t835.length co38] rfl (by (try simp only [List.map_toArray, List.map_cons, List.map_nil]); first | done | rfl | (simp only [List.length_drop, List.length_take]; rfl)) ?_; (with_reducible refine (weigh_Tells.calls a0 _ _ t835 t842 t843 _ ?side1 ?side2 A21.out).mono ?_); (case side1 => repeat (first | exact (Kd.N_reads' HO_9.out).2.2 | (with_reducible refine Kd.C_alloc ?_ _) | (with_reducible refine Kd.C_drewN ?_ _) | (with_reducible refine Kd.C_drew ?_))); (case side2 => exact (Kd.N_reads' HO_9.out).2.1); rintro e w39 ⟨rfl, hb⟩; refine ⟨_, rfl, ?_⟩; have n0_ := Aside0.mk (Kd.N_below (by (with_reducible repeat (first | apply Kd.N_alloc | apply Kd.N_drewN | apply Kd.N_drew)); exact HO_9.out) hb); have n1_ := Aside0.mk (below_step (by repeat (first | (with_reducible first | exact HB.out | apply below_alloc | apply pw_below_drewN | apply below_drew1) | exact HB.out)) hb); clear HO_9; clear HB; have HO_9 := n0_; have HB := n1_; clear n0_ n1_; (try clear hb); (try clear hb2); (try clear hk); (try clear hi)))
                  go_ret
                  exact ⟨by first | rfl | (simp [errW_none, errW_some] <;> rfl) | (simp [*, errW_none, errW_some] <;> rfl), by repeat (first | (with_reducible first | exact HB.out | apply below_alloc | apply pw_below_drewN | apply below_drew1) | exact HB.out)⟩
              · rw [if_neg c22] at H
                have c22b0 : (t838 == 0) = false := beq_eq_false_iff_ne.mpr c22
                have c22b1 : (t838 != 0) = true := bne_iff_ne.mpr c22
                replace H := Option.bind_eq_some_iff.mp H
                obtain ⟨t845, A400, H⟩ := H
                replace H : (some t845) = some r := H
                have A40 := Aside0.mk A400
                clear A400
                obtain rfl := Option.some.inj H
                go_wp2_with (first | ((with_reducible refine gate_callee (f := 44) rfl ?_); refine goesL_ (some 49) rfl rfl Try.func44 (by kernel_rfl) rfl #[.int .i64 a0, .slice A1 l1.length c1] rfl (by (try simp only [List.map_toArray, List.map_cons, List.map_nil]); first | done | rfl | (simp only [List.length_drop, List.length_take]; rfl)) ?_; (with_reducible refine (weigh_Tells.calls a0 _ _ l1 t840 t841 _ ?side1 ?side2 A20.out).mono ?_); (case side1 => repeat (first | exact (Kd.C_below HR1.out HB.out) | (with_reducible refine Kd.C_alloc ?_ _) | (with_reducible refine Kd.C_drewN ?_ _) | (with_reducible refine Kd.C_drew ?_))); (case side2 => exact HC1.out); rintro e w41 ⟨rfl, hb⟩; refine ⟨_, rfl, ?_⟩; have n0_ := Aside0.mk (Kd.N_below (by (with_reducible repeat (first | apply Kd.N_alloc | apply Kd.N_drewN | apply Kd.N_drew)); exact HO_9.out) hb); have n1_ := Aside0.mk (below_step (by repeat (first | (with_reducible first | exact HB.out | apply below_alloc | apply pw_below_drewN | apply below_drew1) | exact HB.out)) hb); clear HO_9; clear HB; have HO_9 := n0_; have HB := n1_; clear n0_ n1_; (try clear hb); (try clear hb2); (try clear hk); (try clear hi); obtain ⟨Ao42, co42, eo42⟩ := Kd.N_slice HO_9.out; subst eo42) | ((with_reducible refine gate_callee (f := 44) rfl ?_); refine goesL_ (some 55) rfl rfl Try.func44 (by kernel_rfl) rfl #[.int .i64 a0, .slice Ao42 t835.length co42] rfl (by (try simp only [List.map_toArray, List.map_cons, List.map_nil]); first | done | rfl | (simp only [List.length_drop, List.length_take]; rfl)) ?_; (with_reducible refine (weigh_Tells.calls a0 _ _ t835 t842 t843 _ ?side1 ?side2 A21.out).mono ?_); (case side1 => repeat (first | exact (Kd.N_reads' HO_9.out).2.2 | (with_reducible refine Kd.C_alloc ?_ _) | (with_reducible refine Kd.C_drewN ?_ _) | (with_reducible refine Kd.C_drew ?_))); (case side2 => exact (Kd.N_reads' HO_9.out).2.1); rintro e w43 ⟨rfl, hb⟩; refine ⟨_, rfl, ?_⟩; have n0_ := Aside0.mk (Kd.N_below (by (with_reducible repeat (first | apply Kd.N_alloc | apply Kd.N_drewN | apply Kd.N_drew)); exact HO_9.out) hb); have n1_ := Aside0.mk (below_step (by repeat (first | (with_reducible first | exact HB.out | apply below_alloc | apply pw_below_drewN | apply below_drew1) | exact HB.out)) hb); clear HO_9; clear HB; have HO_9 := n0_; have HB := n1_; clear n0_ n1_; (try clear hb); (try clear hb2); (try clear hk); (try clear hi)) | (go_at_call 25; (with_reducible refine (verditerlaw06_known.calls kj11  t845 _ A40.out).mono ?_); rintro e w44 ⟨rfl, hb⟩; have n0_ := Aside0.mk (Kd.N_below (by (with_reducible repeat (first | apply Kd.N_alloc | apply Kd.N_drewN | apply Kd.N_drew)); exact HO_9.out) hb); have n1_ := Aside0.mk (below_step (by repeat (first | (with_reducible first | exact HB.out | apply below_alloc | apply pw_below_drewN | apply below_drew1) | exact HB.out)) hb); clear HO_9; clear HB; have HO_9 := n0_; have HB := n1_; clear n0_ n1_; (try clear hb); (try clear hb2); (try clear hk); (try clear hi)))
                go_ret
                exact ⟨by first | rfl | (simp [errW_none, errW_some] <;> rfl) | (simp [*, errW_none, errW_some] <;> rfl), by repeat (first | (with_reducible first | exact HB.out | apply below_alloc | apply pw_below_drewN | apply below_drew1) | exact HB.out)⟩

end Go.Proofs.Ytdbeochifofdoaa.X
end

section
/-! The law WeighRenames: own := KeepWeighings(plan); what it states; KeptWeighings(own, plan). -/
namespace Go.Proofs.Ytdbeochifofdoaa.X
open Go.RowKit Go.Proofs.YtdbeochifofdoaaW.PrintWords Go.Proofs.YtdbeochifofdoaaW.PrintLast Go.Proofs.YtdbeochifofdoaaW.PrintMore
set_option linter.unusedVariables false
set_option linter.unusedSimpArgs false

set_option maxHeartbeats 4000000 in
set_option maxRecDepth 100000 in
theorem weighRenames_calls (k : Nat) (a0 : Int) (A : Option Addr) (l : List S53) (ys : List S53) (A2 : Option Addr) (l2 ys2 : List Int) (w : World) (hl : Kd.C k53 w A l.length l) (hc : l.length ≤ ys.length) (hF : FullW w A ys) (hn : ys.length ≤ 2932031007402)
    (hs : ∀ y, y ∈ ys → y.f0.length ≤ 17592186044416 ∧ y.f1.length ≤ 17592186044416) (hl2 : Kd.C (Kd.int .i64) w A2 l2.length l2) (hc2 : l2.length ≤ ys2.length) (hF2 : Kd.C (Kd.int .i64) w A2 ys2.length ys2) (hn2 : ys2.length ≤ 17592186044416) (h : verditerlaw06_weighRenames.f k a0 l l2 = some true) :
    Calls Try.prog 16 #[.int .i64 a0, .slice A l.length ys.length, .slice A2 l2.length ys2.length] w fun e w' => e = .returned (.bool true) ∧ Below w.heap.size w w' := by
  have HL := Aside0.mk hl
  have HF := Aside0.mk hF
  have HS := Aside0.mk hs
  have H := Aside0.mk h
  clear hl hF hs h
  have HL2 := Aside0.mk hl2
  have HF2 := Aside0.mk hF2
  clear hl2 hF2
  go_enter Try.func16, Try.ntmps16
  go_wp2_with fail
  refine (keepW_calls A l.length ys w HF.out hc hn HS.out).mono ?_
  rintro e w1 ⟨v, rfl, hN, hB1⟩
  obtain ⟨Ao, co, rfl⟩ := Kd.N_slice hN
  have HO := Aside0.mk (Kd.N_reads' hN).2.2
  have HB1 := Aside0.mk hB1
  clear hN hB1
  go_wp2_with fail
  refine (keepInts_calls A2 l2.length ys2 _ (Kd.C_below HF2.out HB1.out) hc2 hn2).mono ?_
  rintro e w4 ⟨v, rfl, hN, hB4⟩
  obtain ⟨Ap, cp, rfl⟩ := Kd.R_slice hN
  have HO2 := Aside0.mk (Kd.R_reads' hN).2.2
  have HO1 := Aside0.mk (Kd.C_below HO.out hB4)
  have HB4 := Aside0.mk (HB1.out.trans (hB4.mono HB1.out.size))
  clear hN hB4 HO HB1
  have HO := HO1
  have HB1 := HB4
  clear HO1 HB4
  go_wp2_with fail
  refine (verditerlaw06_weighRenames.calls k a0 A ys.length l A2 ys2.length l2 true _ (Kd.C_below HL.out HB1.out) hc (Kd.C_below HL2.out HB1.out) hc2 H.out).mono ?_
  rintro e w2 ⟨rfl, hB2⟩
  have HB2 := Aside0.mk hB2
  have HB := Aside0.mk (HB1.out.trans (hB2.mono HB1.out.size))
  clear hB2
  go_wp2_with fail
  refine (keptW_calls Ao co A l.length ys _ (Kd.C_below HO.out HB2.out) (HF.out.below HB.out) hc).mono ?_
  rintro e w3 ⟨rfl, hB3⟩
  have HB3 := Aside0.mk (HB.out.trans (hB3.mono HB.out.size))
  have HP := Aside0.mk (Kd.C_below (Kd.C_below HO2.out HB2.out) hB3)
  clear hB3
  go_wp2_with fail
  refine (keptInts_calls Ap cp A2 l2.length ys2 _ HP.out (Kd.C_below HF2.out HB3.out) hc2).mono ?_
  rintro e w5 ⟨rfl, hB5⟩
  have HB5 := Aside0.mk (HB3.out.trans (hB5.mono HB3.out.size))
  clear hB5 HB3
  have HB3 := HB5
  go_wp2
  go_ret
  exact ⟨rfl, HB3.out⟩
end Go.Proofs.Ytdbeochifofdoaa.X
end

section
/-! A plan that comes in: what its cells hold, up to its length and up to its capacity. -/
namespace Go.Proofs.Ytdbeochifofdoaa.X
open Go.ChangeShapes Go.WideShapes Go.RowKit Go.Proofs.YtdbeochifofdoaaW.PrintWords Go.Proofs.YtdbeochifofdoaaW.PrintLast Go.Proofs.YtdbeochifofdoaaW.PrintMore
set_option linter.unusedVariables false
set_option linter.unusedSimpArgs false

theorem list_of {α : Type} (d : α) (n : Nat) (P : Nat → α → Prop) (h : ∀ i, i < n → ∃ y, P i y) : ∃ ys : List α, ys.length = n ∧ ∀ i, i < n → P i (ys.getD i d) := by
  classical
  refine ⟨(List.range n).map (fun i => if h' : i < n then (h i h').choose else d), by simp, fun i hi => ?_⟩
  have : ((List.range n).map (fun i => if h' : i < n then (h i h').choose else d)).getD i d = (h i hi).choose := by simp [List.getD_eq_getElem?_getD, hi]
  rw [this]
  exact (h i hi).choose_spec
theorem C_take {α : Type} {d : Kd α} {w : World} {A : Option Addr} {n : Nat} {xs : List α} (h : d.C w A n xs) (m : Nat) (hm : m ≤ n) : d.C w A m (xs.take m) := by
  obtain ⟨h1, h2, h3⟩ := h
  refine ⟨by rw [List.length_take]; omega, by omega, fun h0 => ?_⟩
  obtain ⟨ad, e, hc⟩ := h3 (by omega)
  refine ⟨ad, e, fun j p hj => hc j p ?_⟩
  rw [List.getElem?_take] at hj
  split at hj
  · exact hj
  · cases hj
theorem weights_mem_all {H : Type} {P : Program} {t : TypeId} : ∀ {ds : List (DataW H)} {d : DataW H}, d ∈ ds → ∀ n ∈ d.weights P t, n ∈ DataW.weightsAll P t ds
  | d0 :: ds, d, hd, n, hn => by
    rw [DataW.weightsAll, List.mem_append]
    rcases List.mem_cons.1 hd with rfl | hd
    · exact .inl hn
    · exact .inr (weights_mem_all hd n hn)
  | [], _, hd, _, _ => by cases hd
theorem o_bytes3 : Try.prog.bytesOf 3 = 8 := by kernel_rfl
theorem o_bytes53 : Try.prog.bytesOf 53 = 48 := by kernel_rfl
theorem o_cells3 : Try.prog.cellsOf 3 = 1 := by kernel_rfl
theorem o_cells43 : Try.prog.cellsOf 43 = 1 := by kernel_rfl
theorem o_cells53 : Try.prog.cellsOf 53 = 2 := by kernel_rfl
/-- A list of numbers that comes in. -/
theorem open_intsK {H : Type} {enc : TypeId × Value → H} {W : World} {t : TypeId} {fuel : Nat} {cs : List Value} {x : DataW H × List MemPlace} (ht : Try.prog.underlying t = some (.slice 3))
    (h : DataW.trod enc Try.prog W 0 (fun _ => true) true fuel t cs = some x) (hsz : ∀ n ∈ x.1.weights Try.prog t, n ≤ reachBytes) :
    ∃ (A : Option Addr) (n : Nat) (ys : List Int), cs = [.slice A n ys.length] ∧ n ≤ ys.length ∧ ys.length ≤ 17592186044416 ∧ Kd.C (Kd.int .i64) W A ys.length ys ∧ ∀ z, z ∈ ys → (Lit.int .i64 z).wf = true := by
  rcases open_ints ht Try.underlying3 o_cells3 h with ⟨rfl, rfl⟩ | ⟨a, len, cap, zs, rfl, _, hl, hm, hz, rfl, hcell, hwz⟩
  · exact ⟨none, 0, [], rfl, Nat.le_refl _, by simp, ⟨rfl, by simp, fun h => absurd h (by simp)⟩, fun z hz => by cases hz⟩
  · rw [if_pos rfl] at hz
    subst hz
    have hw : zs.length * 8 ≤ reachBytes := by
      have := hsz ((lits (H := H) .i64 (zs.take len) ++ lits (H := H) .i64 (zs.drop len)).length * Try.prog.bytesOf 3) (by simp [DataW.weights, ht])
      rw [o_bytes3] at this
      simpa [lits, Nat.min_eq_left hl, Nat.add_sub_cancel' hl] using this
    unfold reachBytes at hw
    refine ⟨some a, len, zs, rfl, hl, by omega, Kd.C_of_reads (d := (0 : Int)) (h1 := fun _ => rfl) ⟨rfl, by omega, fun _ => ⟨a, rfl, fun j hj => hcell j hj⟩⟩, fun z hz => ?_⟩
    exact hwz z hz
/-- One weighing that comes in, and its lists' lengths. -/
structure PlanAt (W : World) (a : Addr) (z : S53 × Nat × Nat) : Prop where
  at_ : ∃ Al Ar, W.cell? a = some (.slice Al z.2.1 z.1.f0.length) ∧ W.cell? ⟨a.block, a.off + 1, none⟩ = some (.slice Ar z.2.2 z.1.f1.length) ∧ Kd.C (Kd.int .i64) W Al z.1.f0.length z.1.f0 ∧ Kd.C (Kd.int .i64) W Ar z.1.f1.length z.1.f1
  nl : z.2.1 ≤ z.1.f0.length
  nr : z.2.2 ≤ z.1.f1.length
  bl : z.1.f0.length ≤ 17592186044416
  br : z.1.f1.length ≤ 17592186044416
  il : ∀ x, x ∈ z.1.f0 → (Lit.int .i64 x).wf = true
  ir : ∀ x, x ∈ z.1.f1 → (Lit.int .i64 x).wf = true
theorem o_underlying43 : Try.prog.underlying 43 = some (.slice 3) := by kernel_rfl
theorem o_two_of {α : Type} {l : List α} (h : l.length = 2) : ∃ a b, l = [a, b] := by
  match l, h with
  | [a, b], _ => exact ⟨a, b, rfl⟩
theorem open_weighing {H : Type} {enc : TypeId × Value → H} {W : World} {a : Addr} {fuel : Nat} {cs : List Value} {x : DataW H × List MemPlace} (hc : W.cells? 0 a 2 = some cs)
    (h : DataW.trod enc Try.prog W 0 (fun _ => true) true fuel 53 cs = some x) (hsz : ∀ n ∈ x.1.weights Try.prog 53, n ≤ reachBytes) : ∃ z, PlanAt W a z := by
  obtain ⟨xs, n, _, rfl, hcs, hxs, hf⟩ := DataW.trod_struct Try.underlying53 h
  obtain ⟨_, h2, hcell⟩ := World.cells?_some hc
  obtain ⟨c0, c1, rfl⟩ : ∃ c0 c1, cs = [c0, c1] := o_two_of h2
  obtain ⟨x0, x1, rfl⟩ : ∃ c0 c1, xs = [c0, c1] := o_two_of hxs
  have e0 := hf 0 ⟨"Left", 43, 0, false, "", "", 0⟩ rfl
  have e1 := hf 1 ⟨"Right", 43, 1, false, "", "", 24⟩ rfl
  rw [o_cells43] at e0 e1
  simp only [DataW.weights, Try.underlying53, List.map_cons, List.map_nil, DataW.weightsEach, List.append_nil, List.mem_append] at hsz
  obtain ⟨A0, n0, ys0, q0, l0, b0, C0, i0⟩ := open_intsK o_underlying43 e0 (fun m hm => hsz m (.inl hm))
  obtain ⟨A1, n1, ys1, q1, l1, b1, C1, i1⟩ := open_intsK o_underlying43 e1 (fun m hm => hsz m (.inr hm))
  obtain rfl : c0 = .slice A0 n0 ys0.length := by simpa using q0
  obtain rfl : c1 = .slice A1 n1 ys1.length := by simpa using q1
  have k0 := hcell 0 (by omega)
  have k1 := hcell 1 (by omega)
  refine ⟨(⟨ys0, ys1⟩, n0, n1), ⟨A0, A1, ?_, ?_, C0, C1⟩, l0, l1, b0, b1, i0, i1⟩
  · simpa [Addr.add] using k0
  · simpa [Addr.add] using k1
theorem open_plan {H : Type} {enc : TypeId × Value → H} {W : World} {v : Value} {d : DataW H} {ps : List MemPlace} (h : DataW.Trod enc Try.prog W 0 (fun _ => true) true 22 v d ps) (hv : v.cells = #[v])
    (hsz : ∀ n ∈ d.weights Try.prog 22, n ≤ reachBytes) :
    ∃ (A : Option Addr) (l ys : List S53), v = .slice A l.length ys.length ∧ l.length ≤ ys.length ∧ ys.length ≤ 2932031007402 ∧ Kd.C k53 W A l.length l ∧ FullW W A ys ∧
      (∀ y, y ∈ ys → y.f0.length ≤ 17592186044416 ∧ y.f1.length ≤ 17592186044416) ∧ (∀ y, y ∈ l → (∀ x, x ∈ y.f0 → (Lit.int .i64 x).wf = true) ∧ (∀ x, x ∈ y.f1 → (Lit.int .i64 x).wf = true) ∧ y.f0.length ≤ 17592186044416 ∧ y.f1.length ≤ 17592186044416) := by
  obtain ⟨fuel, hf⟩ := h
  rw [hv] at hf
  rcases DataW.trod_slice Try.underlying22 hf with ⟨hcs, _⟩ | ⟨a, len, cap, elems, rest, n, _, hcs, hx, _, hl, hm, hlen, hel, hsp, _⟩
  · obtain rfl : v = .slice none 0 0 := by simpa using hcs
    exact ⟨none, [], [], rfl, Nat.le_refl _, by simp, ⟨rfl, by simp, fun h => absurd h (by simp)⟩, fun i hi => absurd hi (by simp), fun y hy => (by cases hy), fun y hy => (by cases hy)⟩
  obtain rfl : v = .slice (some a) len cap := by simpa using hcs
  obtain ⟨hrl, hre⟩ := hsp rfl
  obtain ⟨rfl, _⟩ := Prod.mk.inj hx
  simp only [DataW.weights, Try.underlying22, o_bytes53, List.mem_cons, List.mem_append] at hsz
  have hb : (len + (cap - len)) * 48 ≤ reachBytes := by
    have := hsz _ (.inl rfl)
    simpa [hlen, hrl] using this
  unfold reachBytes at hb
  rw [o_cells53] at hel hre
  have each : ∀ i, i < cap → ∃ z, PlanAt W (a.add (i * 2)) z := by
    intro i hi
    by_cases hil : i < len
    · have e := hel i hil
      rw [List.getElem?_eq_getElem (by omega)] at e
      obtain ⟨cs, hc, ht⟩ := Option.bind_eq_some_iff.1 e
      exact open_weighing hc ht (fun m hm => hsz m (.inr (.inl (weights_mem_all (List.mem_map.2 ⟨_, List.getElem_mem _, rfl⟩) m hm))))
    · have e := hre (i - len) (by omega)
      rw [List.getElem?_eq_getElem (by omega), show len + (i - len) = i by omega] at e
      obtain ⟨cs, hc, ht⟩ := Option.bind_eq_some_iff.1 e
      exact open_weighing hc ht (fun m hm => hsz m (.inr (.inr (weights_mem_all (List.mem_map.2 ⟨_, List.getElem_mem _, rfl⟩) m hm))))
  obtain ⟨zs, hzl, hz⟩ := list_of (z53, 0, 0) cap _ each
  have hget : ∀ i, i < cap → (zs.map (·.1)).getD i z53 = (zs.getD i (z53, 0, 0)).1 := by
    intro i hi
    simp [List.getD_eq_getElem?_getD, List.getElem?_map, List.getElem?_eq_getElem (show i < zs.length by omega)]
  have hmem : ∀ z, z ∈ zs → ∃ b, PlanAt W b z := by
    intro z h
    obtain ⟨i, hi, rfl⟩ := List.mem_iff_getElem.1 h
    have := hz i (by omega)
    rw [List.getD_eq_getElem?_getD, List.getElem?_eq_getElem hi] at this
    exact ⟨_, this⟩
  have hl2 : ((zs.take len).map fun z => (⟨z.1.f0.take z.2.1, z.1.f1.take z.2.2⟩ : S53)).length = len := by simp; omega
  have hl3 : (zs.map (·.1)).length = cap := by simp; omega
  refine ⟨some a, (zs.take len).map fun z => ⟨z.1.f0.take z.2.1, z.1.f1.take z.2.2⟩, zs.map (·.1), by rw [hl2, hl3], by omega, by omega, ?_, ?_, ?_, ?_⟩
  · refine ⟨rfl, by omega, fun h0 => ⟨a, rfl, fun j p hj => ?_⟩⟩
    rw [List.getElem?_map, Option.map_eq_some_iff] at hj
    obtain ⟨z, hj, rfl⟩ := hj
    rw [List.getElem?_take] at hj
    split at hj
    rotate_left
    · cases hj
    rename_i hjl
    have hp := hz j (by omega)
    rw [List.getD_eq_getElem?_getD, hj, Option.getD_some] at hp
    obtain ⟨Al, Ar, h0, h1, hC0, hC1⟩ := hp.at_
    have t0 := C_take hC0 _ hp.nl
    have t1 := C_take hC1 _ hp.nr
    have n0 : (z.1.f0.take z.2.1).length = z.2.1 := by rw [List.length_take]; have := hp.nl; omega
    have n1 : (z.1.f1.take z.2.2).length = z.2.2 := by rw [List.length_take]; have := hp.nr; omega
    refine ⟨[.slice Al (z.1.f0.take z.2.1).length z.1.f0.length, .slice Ar (z.1.f1.take z.2.2).length z.1.f1.length], rfl, k53_mk W ⟨z.1.f0.take z.2.1, z.1.f1.take z.2.2⟩ (by rw [n0]; exact hp.nl) (by rw [n0]; exact t0) (by rw [n1]; exact hp.nr) (by rw [n1]; exact t1), ?_⟩
    rw [n0, n1]
    intro i u hu
    match i with
    | 0 =>
      obtain rfl := Option.some.inj hu
      rw [show k53.sz = 2 from rfl, Nat.add_zero]
      exact h0
    | 1 =>
      obtain rfl := Option.some.inj hu
      rw [show k53.sz = 2 from rfl, add_field a (j * 2) 1 (by omega)]
      exact h1
    | i + 2 => cases hu
  · intro i hi
    rw [hl3] at hi
    have hp := hz i hi
    obtain ⟨Al, Ar, h0, h1, hC0, hC1⟩ := hp.at_
    rw [hget i hi]
    exact ⟨a, Al, _, Ar, _, rfl, h0, h1, hp.nl, hp.nr, hC0, hC1⟩
  · intro y hy
    obtain ⟨z, hz, rfl⟩ := List.mem_map.1 hy
    obtain ⟨b, hp⟩ := hmem z hz
    exact ⟨hp.bl, hp.br⟩
  · intro y hy
    obtain ⟨z, hz, rfl⟩ := List.mem_map.1 hy
    obtain ⟨b, hp⟩ := hmem z (List.mem_of_mem_take hz)
    have := hp.bl
    have := hp.br
    exact ⟨fun x hx => hp.il x (List.mem_of_mem_take hx), fun x hx => hp.ir x (List.mem_of_mem_take hx), by rw [List.length_take]; omega, by rw [List.length_take]; omega⟩
end Go.Proofs.Ytdbeochifofdoaa.X
end

section
/-! Cases that come in, and lists of numbers. -/
namespace Go.Proofs.Ytdbeochifofdoaa.X
open Go.ChangeShapes Go.WideShapes Go.RowKit Go.Proofs.YtdbeochifofdoaaW.PrintWords Go.Proofs.YtdbeochifofdoaaW.PrintLast Go.Proofs.YtdbeochifofdoaaW.PrintMore
set_option linter.unusedVariables false
set_option linter.unusedSimpArgs false

/-- A list of numbers that comes in, up to its length and up to its capacity. -/
theorem open_nums {H : Type} {enc : TypeId × Value → H} {W : World} {v : Value} {d : DataW H} {ps : List MemPlace} (h : DataW.Trod enc Try.prog W 0 (fun _ => true) true 43 v d ps) (hv : v.cells = #[v])
    (hsz : ∀ n ∈ d.weights Try.prog 43, n ≤ reachBytes) :
    ∃ (A : Option Addr) (l ys : List Int), v = .slice A l.length ys.length ∧ l.length ≤ ys.length ∧ ys.length ≤ 17592186044416 ∧ Kd.C (Kd.int .i64) W A l.length l ∧ Kd.C (Kd.int .i64) W A ys.length ys ∧ ∀ x, x ∈ l → (Lit.int .i64 x).wf = true := by
  obtain ⟨fuel, hf⟩ := h
  rw [hv] at hf
  obtain ⟨A, n, ys, hcs, hn, hl, hC, hw⟩ := open_intsK o_underlying43 hf hsz
  obtain rfl : v = .slice A n ys.length := by simpa using hcs
  have e : (ys.take n).length = n := by rw [List.length_take]; omega
  refine ⟨A, ys.take n, ys, by rw [e], by omega, hl, ?_, hC, fun x hx => hw x (List.mem_of_mem_take hx)⟩
  rw [e]
  exact C_take hC n hn
end Go.Proofs.Ytdbeochifofdoaa.X
end

section
/-! The document's cased and CheckBad, and the program's. -/
namespace Go.Proofs.Ytdbeochifofdoaa.X
open Go.RowKit Go.Proofs.YtdbeochifofdoaaW.PrintWords Go.Proofs.YtdbeochifofdoaaW.PrintLast
set_option linter.unusedVariables false
set_option linter.unusedSimpArgs false

/-- The answers to a case. -/
def ansB (l : List S53) (n w : Int) : List Int := (refMark l n).map fun y => wrap64 (w * y)
/-- Why two cases do not prove. -/
def chkB (lots : Int) (l : List S53) (c0 c1 d0 d1 : Int) : Int :=
  if cErr lots l [⟨c0, c1⟩, ⟨d0, d1⟩] = 0 then (if (if (c0 == d0 && c1 == d1) = true then (ansB l c0 c1).all (· == 0) else ansB l c0 c1 == ansB l d0 d1) = true then 0 else 7) else cErr lots l [⟨c0, c1⟩, ⟨d0, d1⟩]
theorem cErr_ok {lots : Int} {l : List S53} {cs : List S35} (h : cErr lots l cs = 0) : pErr lots l = 0 ∧ ∀ c, c ∈ cs → 0 ≤ c.f0 ∧ c.f0 < lots ∧ (c.f1 = 1 ∨ c.f1 = -1) := by
  unfold cErr at h
  by_cases hp : pErr lots l = 0
  · rw [if_pos hp] at h
    split at h
    · cases h
    rename_i h1
    split at h
    · cases h
    rename_i h2
    refine ⟨hp, fun c hc => ?_⟩
    simp only [List.any_eq_true, not_exists, not_and] at h1 h2
    have a1 := h1 c hc
    have a2 := h2 c hc
    simp only [Bool.not_eq_true', Bool.not_eq_false, Bool.and_eq_true, decide_eq_true_eq, bne_iff_ne, ne_eq, Bool.not_eq_true] at a1 a2
    refine ⟨by simpa using (by simpa using a1 : _ ∧ _).1, ?_, ?_⟩
    · have := (by simpa using a1 : 0 ≤ c.f0 ∧ c.f0 ≤ lots - 1).2; omega
    · by_cases q : c.f1 = 1
      · exact .inl q
      · right
        simpa [q] using a2
  · rw [if_neg hp] at h; exact absurd h hp
end Go.Proofs.Ytdbeochifofdoaa.X
end
