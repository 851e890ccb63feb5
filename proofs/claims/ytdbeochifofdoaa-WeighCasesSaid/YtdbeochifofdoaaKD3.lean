/- The law WeighCases of the given program: which cases have given answers.
Its conditions: none beyond the statement's own. Part 4 of 6 of the proof. -/
import Derived.Handy
import Derived.WalkSpells
import Derived.Shelf.Abstract
import Derived.Deep.RegionHeld3
import Derived.Laws.CopyOwn
import Derived.Test.YtdbeochifofdoaaKD2
section
-- Written by a program of this session (wip/hook.py, which runs the kit's print.py with contracts proved by hand). Not trusted: Lean checks it.
namespace Go.Proofs.Ytdbeochifofdoaa.X
open Go.RowKit Go.Proofs.YtdbeochifofdoaaW.PrintWords Go.Proofs.YtdbeochifofdoaaW.PrintLast Go.Proofs.YtdbeochifofdoaaW.PrintMore
attribute [local go_sem] max2_int min2_int max_two min_two max_three min_three max_four min_four   -- for this text's walks alone
set_option linter.unusedVariables false
set_option linter.unusedSimpArgs false

/-! ### verditerref06_Cases: function 63 -/
mutual
def verditerref06_Cases.l0 : Nat → Int → List (S53) → List Int → Int → Option ((List (S35)) × Bool × Int)
  | 0, _, _, _, _ => none
  | k + 1, x0, x1, x2, x10 => if x10 < (x2.length : Int) then (if 0 ≤ x10 then ((verditerref06_within.f (rd x2 x10) (-1) 1).bind fun t460 => (if t460 = true then (verditerref06_Cases.l0 k x0 x1 x2 (wrap64 (x10 + 1))) else (some (([] : List (S35)), false, 1)))) else (none)) else ((verditerref06_all.f k x0).bind fun t461 => (verditerref06_Cases.l1 k x1 x2 t461 ([] : List (S35)) 0))
def verditerref06_Cases.l1 : Nat → List (S53) → List Int → List (S35) → List (S35) → Int → Option ((List (S35)) × Bool × Int)
  | 0, _, _, _, _, _ => none
  | k + 1, x1, x2, x11, x12, x13 => if x13 < (x11.length : Int) then (if 0 ≤ x13 then ((verditerref06_mark.f k x1 ((rd_T35 x11 x13).f0)).bind fun t466 => ((verditerref06_times.f k t466 ((rd_T35 x11 x13).f1)).bind fun t470 => ((verditerref06_SameInts.f k t470 x2).bind fun t473 => (if t473 = true then (if x12.length < 8796093022208 then (verditerref06_Cases.l1 k x1 x2 x11 (x12 ++ [(⟨(rd_T35 x11 x13).f0, (rd_T35 x11 x13).f1⟩ : S35)]) (wrap64 (x13 + 1))) else (none)) else (verditerref06_Cases.l1 k x1 x2 x11 x12 (wrap64 (x13 + 1))))))) else (none)) else ((verditerref06_isBlank.f k x2).bind fun t464 => (some (x12, t464, 0)))
end
def verditerref06_Cases.f (k : Nat) (a0 : Int) (l1 : List (S53)) (l2 : List Int) : Option ((List (S35)) × Bool × Int) := (verditerref06_Validate.f k a0 l1).bind fun t458 => (if t458 = 0 then (if (l2.length : Int) = (l1.length : Int) then (verditerref06_Cases.l0 k a0 l1 l2 0) else (some (([] : List (S35)), false, 1))) else (some (([] : List (S35)), false, t458)))
theorem verditerref06_Cases.mono_l : ∀ k, (∀ y0 y1 y2 y3, LeO (verditerref06_Cases.l0 k y0 y1 y2 y3) (verditerref06_Cases.l0 (k + 1) y0 y1 y2 y3)) ∧ (∀ y0 y1 y2 y3 y4, LeO (verditerref06_Cases.l1 k y0 y1 y2 y3 y4) (verditerref06_Cases.l1 (k + 1) y0 y1 y2 y3 y4))
  | 0 => ⟨fun _ _ _ _ r h => by simp [verditerref06_Cases.l0] at h, fun _ _ _ _ _ r h => by simp [verditerref06_Cases.l1] at h⟩
  | k + 1 => by
    obtain ⟨ih0, ih1⟩ := verditerref06_Cases.mono_l k
    refine ⟨?_, ?_⟩
    · intro y0 y1 y2 y3
      unfold verditerref06_Cases.l0
      repeat' first
      | (with_reducible exact ih0 _ _ _ _)
      | (with_reducible exact ih1 _ _ _ _ _)
      | (with_reducible exact verditerref06_SameInts.mono _ _ _)
      | (with_reducible exact verditerref06_Validate.mono _ _ _)
      | (with_reducible exact verditerref06_all.mono _ _)
      | (with_reducible exact verditerref06_isBlank.mono _ _)
      | (with_reducible exact verditerref06_mark.mono _ _ _)
      | (with_reducible exact verditerref06_times.mono _ _ _)
      | (with_reducible exact LeO.refl _)
      | (with_reducible exact LeO.none _)
      | (with_reducible refine LeO.ite ?_ ?_)
      | (with_reducible refine LeO.bind ?_ (fun _ => ?_))
      | exact ih0 _ _ _ _
      | exact ih1 _ _ _ _ _
      | exact verditerref06_SameInts.mono _ _ _
      | exact verditerref06_Validate.mono _ _ _
      | exact verditerref06_all.mono _ _
      | exact verditerref06_isBlank.mono _ _
      | exact verditerref06_mark.mono _ _ _
      | exact verditerref06_times.mono _ _ _
      | exact LeO.none _
      | refine LeO.ite ?_ ?_
      | refine LeO.bind ?_ (fun _ => ?_)
    · intro y0 y1 y2 y3 y4
      unfold verditerref06_Cases.l1
      repeat' first
      | (with_reducible exact ih0 _ _ _ _)
      | (with_reducible exact ih1 _ _ _ _ _)
      | (with_reducible exact verditerref06_SameInts.mono _ _ _)
      | (with_reducible exact verditerref06_Validate.mono _ _ _)
      | (with_reducible exact verditerref06_all.mono _ _)
      | (with_reducible exact verditerref06_isBlank.mono _ _)
      | (with_reducible exact verditerref06_mark.mono _ _ _)
      | (with_reducible exact verditerref06_times.mono _ _ _)
      | (with_reducible exact LeO.refl _)
      | (with_reducible exact LeO.none _)
      | (with_reducible refine LeO.ite ?_ ?_)
      | (with_reducible refine LeO.bind ?_ (fun _ => ?_))
      | exact ih0 _ _ _ _
      | exact ih1 _ _ _ _ _
      | exact verditerref06_SameInts.mono _ _ _
      | exact verditerref06_Validate.mono _ _ _
      | exact verditerref06_all.mono _ _
      | exact verditerref06_isBlank.mono _ _
      | exact verditerref06_mark.mono _ _ _
      | exact verditerref06_times.mono _ _ _
      | exact LeO.none _
      | refine LeO.ite ?_ ?_
      | refine LeO.bind ?_ (fun _ => ?_)
theorem verditerref06_Cases.mono : ∀ a0 a1 a2 k, LeO (verditerref06_Cases.f k a0 a1 a2) (verditerref06_Cases.f (k + 1) a0 a1 a2) := by
  intro a0 a1 a2 k
  obtain ⟨ih0, ih1⟩ := verditerref06_Cases.mono_l k
  unfold verditerref06_Cases.f
  repeat' first
      | (with_reducible exact ih0 _ _ _ _)
      | (with_reducible exact ih1 _ _ _ _ _)
      | (with_reducible exact verditerref06_SameInts.mono _ _ _)
      | (with_reducible exact verditerref06_Validate.mono _ _ _)
      | (with_reducible exact verditerref06_all.mono _ _)
      | (with_reducible exact verditerref06_isBlank.mono _ _)
      | (with_reducible exact verditerref06_mark.mono _ _ _)
      | (with_reducible exact verditerref06_times.mono _ _ _)
      | (with_reducible exact LeO.refl _)
      | (with_reducible exact LeO.none _)
      | (with_reducible refine LeO.ite ?_ ?_)
      | (with_reducible refine LeO.bind ?_ (fun _ => ?_))
      | exact ih0 _ _ _ _
      | exact ih1 _ _ _ _ _
      | exact verditerref06_SameInts.mono _ _ _
      | exact verditerref06_Validate.mono _ _ _
      | exact verditerref06_all.mono _ _
      | exact verditerref06_isBlank.mono _ _
      | exact verditerref06_mark.mono _ _ _
      | exact verditerref06_times.mono _ _ _
      | exact LeO.none _
      | refine LeO.ite ?_ ?_
      | refine LeO.bind ?_ (fun _ => ?_)
def verditerref06_Cases.T16 : Bool × List (List Nat × List Nat) := (true, [([], []), ([], []), ([], []), ([1, 2], [1, 2]), ([3], [3]), ([4], [4]), ([0, 5], [0, 5]), ([], []), ([], []), ([7, 8], [7, 8]), ([9], [9]), ([10], [10]), ([6, 11, 6], [6, 11]), ([], []), ([12, 13, 12], [12, 13])])
def verditerref06_Cases.B16 : List Nat := [0, 0, 0, 6, 14, 30, 63, 0, 0, 384, 896, 1920, 4095, 0, 16383]
theorem verditerref06_Cases.tab16 : rtab .any (opsOf Try.f63 16) = verditerref06_Cases.T16 := by kernel_rfl
theorem verditerref06_Cases.bits16 : waitsOk verditerref06_Cases.T16.2 verditerref06_Cases.B16 = true := by kernel_rfl
set_option maxHeartbeats 8000000 in
set_option maxRecDepth 100000 in
theorem verditerref06_Cases.calls (k : Nat) (a0 : Int) (A1 : Option Addr) (c1 : Nat) (l1 : List (S53)) (A2 : Option Addr) (c2 : Nat) (l2 : List Int) (r1 : List (S35)) (r2 : Bool) (r3 : Int) (w : World) (hr1 : Kd.C k53 w A1 l1.length l1) (hc1 : l1.length ≤ c1) (hr2 : Kd.C (Kd.int .i64) w A2 l2.length l2) (hc2 : l2.length ≤ c2) (h : verditerref06_Cases.f k a0 l1 l2 = some (r1, r2, r3)) :
    Calls Try.prog 63 #[.int .i64 a0, .slice A1 l1.length c1, .slice A2 l2.length c2] w fun e w' => ∃ v0_ : Value, e = .returned (.tuple #[v0_, .bool r2, .int .i64 r3]) ∧ Kd.R k35 35 w' w.heap.size (fun _ => True) v0_ r1 ∧ Below w.heap.size w w' := by
  have hu35 := Try.underlying35
  have HR1 := Aside0.mk hr1
  have HC1 := Aside0.mk hc1
  clear hr1 hc1
  have HR2 := Aside0.mk hr2
  have HC2 := Aside0.mk hc2
  clear hr2 hc2
  have HB := Aside0.mk (Below.refl w.heap.size w)
  have H : ((verditerref06_Validate.f k a0 l1).bind fun t458 => (if t458 = 0 then (if (l2.length : Int) = (l1.length : Int) then (verditerref06_Cases.l0 k a0 l1 l2 0) else (some (([] : List (S35)), false, 1))) else (some (([] : List (S35)), false, t458)))) = some (r1, r2, r3) := h
  clear h
  replace H := Option.bind_eq_some_iff.mp H
  obtain ⟨t458, A40, H⟩ := H
  replace H : (if t458 = 0 then (if (l2.length : Int) = (l1.length : Int) then (verditerref06_Cases.l0 k a0 l1 l2 0) else (some (([] : List (S35)), false, 1))) else (some (([] : List (S35)), false, t458))) = some (r1, r2, r3) := H
  have A4 := Aside0.mk A40
  clear A40
  by_cases c5 : t458 = 0
  · rw [if_pos c5] at H
    have c5b0 : (t458 == 0) = true := beq_iff_eq.mpr c5
    have c5b1 : (t458 != 0) = false := bne_eq_false_iff_eq.mpr c5
    clear c5
    by_cases c6 : (l2.length : Int) = (l1.length : Int)
    · rw [if_pos c6] at H
      have c6b0 : ((l2.length : Int) == (l1.length : Int)) = true := beq_iff_eq.mpr c6
      have c6b1 : ((l2.length : Int) != (l1.length : Int)) = false := bne_eq_false_iff_eq.mpr c6
      have c6b2 : (l2.length == l1.length) = true := by first | simpa using c6 | (simp at c6 ⊢; omega)
      clear c6
      have H' := Aside0.mk H
      clear H
      go_enter Try.func63, Try.ntmps63
      go_wp2_with (first | ((with_reducible refine gate_callee (f := 59) rfl ?_); refine goesL_ (some 16) rfl rfl Try.func59 (by kernel_rfl) rfl #[.int .i64 a0, .slice A1 l1.length c1] rfl (by (try simp only [List.map_toArray, List.map_cons, List.map_nil]); first | done | rfl | (simp only [List.length_drop, List.length_take]; rfl)) ?_; (with_reducible refine (verditerref06_Validate.calls k a0 _ _ l1 t458 _ ?side1 ?side2 A4.out).mono ?_); (case side1 => repeat (first | exact HR1.out | (with_reducible refine Kd.C_alloc ?_ _) | (with_reducible refine Kd.C_drewN ?_ _) | (with_reducible refine Kd.C_drew ?_))); (case side2 => exact HC1.out); rintro e w' ⟨rfl, ⟨nd, rfl⟩⟩; refine ⟨_, rfl, ?_⟩))
      go_loopg [10] k (fun kq v10 w' => ∃ (x10_1 : Int), v10 = .int .i64 x10_1 ∧ Aside0 (verditerref06_Cases.l0 kq a0 l1 l2 x10_1 = some (r1, r2, r3)) ∧ Aside0 (kq ≤ k) ∧ Aside0 (Below w.heap.size w w'))
      case atStart => exact ⟨(0), (by first | rfl | (simp; done) | (simp [*]; done)), H', ⟨Nat.le_refl _⟩, ⟨by repeat (first | (with_reducible first | exact HB.out | apply below_alloc | apply pw_below_drewN | apply below_drew1) | exact HB.out)⟩⟩
      case round =>
        clear H'
        try clear c1
        try clear c2
        try clear p2
        try clear c5
        try clear c5b0
        try clear c5b1
        try clear c6
        try clear c6b0
        try clear c6b1
        try clear c6b2
        obtain ⟨x10_1, rfl, HA, HK1, HB⟩ := hrel
        cases gk with
        | zero => exact absurd HA.out (by simp [verditerref06_Cases.l0])
        | succ k1 =>
          have H := HA.out
          clear HA
          simp only [verditerref06_Cases.l0] at H
          by_cases c7 : x10_1 < (l2.length : Int)
          · rw [if_pos c7] at H
            have c7b0 : decide (x10_1 < (l2.length : Int)) = true := decide_eq_true c7
            clear c7
            by_cases c8 : 0 ≤ x10_1
            · rw [if_pos c8] at H
              have c8b0 : decide (0 ≤ x10_1) = true := decide_eq_true c8
              clear c8
              replace H := Option.bind_eq_some_iff.mp H
              obtain ⟨t460, A90, H⟩ := H
              replace H : (if t460 = true then (verditerref06_Cases.l0 k1 a0 l1 l2 (wrap64 (x10_1 + 1))) else (some (([] : List (S35)), false, 1))) = some (r1, r2, r3) := H
              have A9 := Aside0.mk A90
              clear A90
              by_cases c10 : t460 = true
              · subst c10
                have H1 : (verditerref06_Cases.l0 k1 a0 l1 l2 (wrap64 (x10_1 + 1))) = some (r1, r2, r3) := by rw [if_pos rfl] at H; exact H
                clear H
                have H := H1
                clear H1
                have H' := Aside0.mk H
                clear H
                have p459 : 0 ≤ (x10_1 : Int) := of_decide_eq_true (by first | (with_reducible assumption) | assumption)
                have q459 : x10_1 < (l2.length : Int) := of_decide_eq_true (by first | (with_reducible assumption) | assumption)
                obtain ⟨ad459, e459, hx459_0⟩ := Kd.at_int HR2.out x10_1 p459 q459
                cases e459
                replace hx459_0 := (HB.out.cell (World.block_lt_of_cell? w _ hx459_0)).trans hx459_0
                replace p459 := eq_true p459
                replace q459 := eq_true q459
                go_wp2_with (first | ((with_reducible refine gate_callee (f := 82) rfl ?_); refine goesL_ (some 35) rfl rfl Try.func82 (by kernel_rfl) rfl #[.int .i64 (rd l2 x10_1), .int .i64 (-1), .int .i64 1] rfl (by (try simp only [List.map_toArray, List.map_cons, List.map_nil]); first | done | rfl | (simp only [List.length_drop, List.length_take]; rfl)) ?_; (with_reducible refine (verditerref06_within.calls (rd l2 x10_1) (-1) 1 true _ A9.out).mono ?_); rintro e w' ⟨rfl, ⟨nd, rfl⟩⟩; refine ⟨_, rfl, ?_⟩))
                go_roundg k1
                case measure => have := HK1.out; omega
                case rel => exact ⟨(wrap64 (x10_1 + 1)), (by first | rfl | (simp; done) | (simp [*]; done)), H', ⟨by have := HK1.out; omega⟩, ⟨by repeat (first | (with_reducible first | exact HB.out | apply below_alloc | apply pw_below_drewN | apply below_drew1) | exact HB.out)⟩⟩
              · replace c10 := Bool.eq_false_iff.mpr c10
                subst c10
                have H1 : (some (([] : List (S35)), false, 1)) = some (r1, r2, r3) := by rw [if_neg (show ¬ (false = true) by decide)] at H; exact H
                clear H
                have H := H1
                clear H1
                simp only [Option.some.injEq, Prod.mk.injEq] at H
                obtain ⟨rfl, rfl, rfl⟩ := H
                have p459 : 0 ≤ (x10_1 : Int) := of_decide_eq_true (by first | (with_reducible assumption) | assumption)
                have q459 : x10_1 < (l2.length : Int) := of_decide_eq_true (by first | (with_reducible assumption) | assumption)
                obtain ⟨ad459, e459, hx459_0⟩ := Kd.at_int HR2.out x10_1 p459 q459
                cases e459
                replace hx459_0 := (HB.out.cell (World.block_lt_of_cell? w _ hx459_0)).trans hx459_0
                replace p459 := eq_true p459
                replace q459 := eq_true q459
                go_wp2_with (first | ((with_reducible refine gate_callee (f := 82) rfl ?_); refine goesL_ (some 35) rfl rfl Try.func82 (by kernel_rfl) rfl #[.int .i64 (rd l2 x10_1), .int .i64 (-1), .int .i64 1] rfl (by (try simp only [List.map_toArray, List.map_cons, List.map_nil]); first | done | rfl | (simp only [List.length_drop, List.length_take]; rfl)) ?_; (with_reducible refine (verditerref06_within.calls (rd l2 x10_1) (-1) 1 false _ A9.out).mono ?_); rintro e w' ⟨rfl, ⟨nd, rfl⟩⟩; refine ⟨_, rfl, ?_⟩))
                go_ret3
                exact ⟨_, by first | rfl | (simp [errW_none, errW_some] <;> rfl) | (simp [*, errW_none, errW_some] <;> rfl), by first | exact Kd.R_nil _ _ _ _ _ | exact Kd.N_nil _ _ _ _ _ | exact Kd.V_nil _ _ _ _ _ | exact Kd.Q_nil _ _ _ _ _ | exact Kd.S_nil _ _ _ _ _, by repeat (first | (with_reducible first | exact HB.out | apply below_alloc | apply pw_below_drewN | apply below_drew1) | exact HB.out)⟩
            · rw [if_neg c8] at H
              exact absurd H (by simp)
          · rw [if_neg c7] at H
            have c7b0 : decide (x10_1 < (l2.length : Int)) = false := decide_eq_false c7
            clear c7
            replace H := Option.bind_eq_some_iff.mp H
            obtain ⟨t461, A110, H⟩ := H
            replace H : (verditerref06_Cases.l1 k1 l1 l2 t461 ([] : List (S35)) 0) = some (r1, r2, r3) := H
            have A11 := Aside0.mk A110
            clear A110
            have H' := Aside0.mk H
            clear H
            go_wp2_with (first | ((with_reducible refine gate_callee (f := 92) rfl ?_); refine goesL_ (some 38) rfl rfl Try.func92 (by kernel_rfl) rfl #[.int .i64 a0] rfl (by (try simp only [List.map_toArray, List.map_cons, List.map_nil]); first | done | rfl | (simp only [List.length_drop, List.length_take]; rfl)) ?_; (with_reducible refine (verditerref06_all.calls k1 a0 t461 _ A11.out).mono ?_); rintro e w12 ⟨v462, rfl, ho0, hb⟩; refine ⟨_, rfl, ?_⟩; have n0_ := Aside0.mk (Kd.R_lower ho0 (below_size (by repeat (first | (with_reducible first | exact HB.out | apply below_alloc | apply pw_below_drewN | apply below_drew1) | exact HB.out)))); have n1_ := Aside0.mk (below_step (by repeat (first | (with_reducible first | exact HB.out | apply below_alloc | apply pw_below_drewN | apply below_drew1) | exact HB.out)) hb); clear HB; have HO463 := n0_; have HB := n1_; clear n0_ n1_; (try clear hb); (try clear hb2); (try clear hk); (try clear hi); (try clear ho0)))
            go_loopg [12, 13] k1 (fun kq v12 v13 w' => ∃ (x12_2 : List (S35)) (x13_2 : Int), v13 = .int .i64 x13_2 ∧ Aside0 (verditerref06_Cases.l1 kq l1 l2 t461 x12_2 x13_2 = some (r1, r2, r3)) ∧ Aside0 (kq ≤ k1) ∧ Aside0 (Kd.R k35 35 w' w.heap.size (fun k_ => some k_ ≠ (v12 : Value).ownBlock) v462 t461) ∧ Aside0 (Kd.R k35 35 w' w.heap.size (fun k_ => some k_ ≠ (v462 : Value).ownBlock) v12 x12_2) ∧ Aside0 (Below w.heap.size w w'))
            case atStart => exact ⟨(([] : List (S35))), (0), (by first | rfl | (simp; done) | (simp [*]; done)), H', ⟨Nat.le_refl _⟩, ⟨by (with_reducible repeat (first | apply Kd.R_alloc | apply Kd.R_drewN | apply Kd.R_drew)); exact Kd.R_mono HO463.out (fun _ hk => (by simp [Value.ownBlock]))⟩, ⟨by first | exact Kd.R_nil _ _ _ _ _ | exact Kd.N_nil _ _ _ _ _ | exact Kd.V_nil _ _ _ _ _ | exact Kd.Q_nil _ _ _ _ _ | exact Kd.S_nil _ _ _ _ _⟩, ⟨by repeat (first | (with_reducible first | exact HB.out | apply below_alloc | apply pw_below_drewN | apply below_drew1) | exact HB.out)⟩⟩
            case round =>
              clear H'
              try clear c1
              try clear c2
              try clear p2
              try clear p4
              try clear q4
              try clear hx4
              try clear c5
              try clear c5b0
              try clear c5b1
              try clear c6
              try clear c6b0
              try clear c6b1
              try clear c6b2
              try clear p6
              try clear c7
              try clear c7b0
              try clear c8
              try clear c8b0
              try clear c9
              try clear c10
              try clear hx459_0
              try clear p2
              try clear p459
              try clear q459
              obtain ⟨x12_2, x13_2, rfl, HA, HK2, HO_11, HO_12, HB⟩ := hrel
              cases gk with
              | zero => exact absurd HA.out (by simp [verditerref06_Cases.l1])
              | succ k2 =>
                have H := HA.out
                clear HA
                simp only [verditerref06_Cases.l1] at H
                by_cases c13 : x13_2 < (t461.length : Int)
                · rw [if_pos c13] at H
                  have c13b0 : decide (x13_2 < (t461.length : Int)) = true := decide_eq_true c13
                  clear c13
                  by_cases c14 : 0 ≤ x13_2
                  · rw [if_pos c14] at H
                    have c14b0 : decide (0 ≤ x13_2) = true := decide_eq_true c14
                    clear c14
                    replace H := Option.bind_eq_some_iff.mp H
                    obtain ⟨t466, A150, H⟩ := H
                    replace H : ((verditerref06_times.f k2 t466 ((rd_T35 t461 x13_2).f1)).bind fun t470 => ((verditerref06_SameInts.f k2 t470 l2).bind fun t473 => (if t473 = true then (if x12_2.length < 8796093022208 then (verditerref06_Cases.l1 k2 l1 l2 t461 (x12_2 ++ [(⟨(rd_T35 t461 x13_2).f0, (rd_T35 t461 x13_2).f1⟩ : S35)]) (wrap64 (x13_2 + 1))) else (none)) else (verditerref06_Cases.l1 k2 l1 l2 t461 x12_2 (wrap64 (x13_2 + 1)))))) = some (r1, r2, r3) := H
                    have A15 := Aside0.mk A150
                    clear A150
                    replace H := Option.bind_eq_some_iff.mp H
                    obtain ⟨t470, A160, H⟩ := H
                    replace H : ((verditerref06_SameInts.f k2 t470 l2).bind fun t473 => (if t473 = true then (if x12_2.length < 8796093022208 then (verditerref06_Cases.l1 k2 l1 l2 t461 (x12_2 ++ [(⟨(rd_T35 t461 x13_2).f0, (rd_T35 t461 x13_2).f1⟩ : S35)]) (wrap64 (x13_2 + 1))) else (none)) else (verditerref06_Cases.l1 k2 l1 l2 t461 x12_2 (wrap64 (x13_2 + 1))))) = some (r1, r2, r3) := H
                    have A16 := Aside0.mk A160
                    clear A160
                    replace H := Option.bind_eq_some_iff.mp H
                    obtain ⟨t473, A170, H⟩ := H
                    replace H : (if t473 = true then (if x12_2.length < 8796093022208 then (verditerref06_Cases.l1 k2 l1 l2 t461 (x12_2 ++ [(⟨(rd_T35 t461 x13_2).f0, (rd_T35 t461 x13_2).f1⟩ : S35)]) (wrap64 (x13_2 + 1))) else (none)) else (verditerref06_Cases.l1 k2 l1 l2 t461 x12_2 (wrap64 (x13_2 + 1)))) = some (r1, r2, r3) := H
                    have A17 := Aside0.mk A170
                    clear A170
                    by_cases c18 : t473 = true
                    · subst c18
                      have H1 : (if x12_2.length < 8796093022208 then (verditerref06_Cases.l1 k2 l1 l2 t461 (x12_2 ++ [(⟨(rd_T35 t461 x13_2).f0, (rd_T35 t461 x13_2).f1⟩ : S35)]) (wrap64 (x13_2 + 1))) else (none)) = some (r1, r2, r3) := by rw [if_pos rfl] at H; exact H
                      clear H
                      have H := H1
                      clear H1
                      by_cases c19 : x12_2.length < 8796093022208
                      · rw [if_pos c19] at H
                        have LMc19 := Aside0.mk c19
                        clear c19
                        obtain ⟨y475, hy475⟩ : ∃ y_ : List (S35), y_ = (x12_2 ++ [(⟨(rd_T35 t461 x13_2).f0, (rd_T35 t461 x13_2).f1⟩ : S35)]) := ⟨_, rfl⟩
                        replace H : (verditerref06_Cases.l1 k2 l1 l2 t461 y475 (wrap64 (x13_2 + 1))) = some (r1, r2, r3) := by first | (rw [hy475]; with_reducible exact H) | (have H2_ := (Option.bind_some _ _).symm.trans H; rw [hy475]; with_reducible exact H2_) | (have H2_ := (Option.bind_some _ _).symm.trans H; with_reducible exact H2_) | with_reducible exact H | (rw [hy475]; exact H) | exact H
                        have Ny475 := Aside0.mk hy475
                        clear hy475
                        have H' := Aside0.mk H
                        clear H
                        obtain ⟨Ao20, co20, eo20⟩ := Kd.R_slice HO_11.out
                        subst eo20
                        try go_wp2
                        have n0_ := Aside0.mk (Kd.R_drew HO_11.out)
                        have n1_ := Aside0.mk (Kd.R_drew HO_12.out)
                        have n2_ := Aside0.mk (below_drew1 HB.out)
                        clear HO_11
                        clear HO_12
                        clear HB
                        have HO_11 := n0_
                        have HO_12 := n1_
                        have HB := n2_
                        clear n0_ n1_ n2_
                        have p465 : 0 ≤ (x13_2 : Int) := of_decide_eq_true (by first | (with_reducible assumption) | assumption)
                        have q465 : x13_2 < (t461.length : Int) := of_decide_eq_true (by first | (with_reducible assumption) | assumption)
                        obtain ⟨ad465, e465, hx465_0, hx465_1⟩ := at_T35 (Kd.R_reads' HO_11.out).2.2 x13_2 p465 q465
                        cases e465
                        replace p465 := eq_true p465
                        replace q465 := eq_true q465
                        have p469 : 0 ≤ (x13_2 : Int) := of_decide_eq_true (by first | (with_reducible assumption) | assumption)
                        have q469 : x13_2 < (t461.length : Int) := of_decide_eq_true (by first | (with_reducible assumption) | assumption)
                        obtain ⟨ad469, e469, hx469_0, hx469_1⟩ := at_T35 (Kd.R_reads' HO_11.out).2.2 x13_2 p469 q469
                        obtain rfl : ad465 = ad469 := (by injection e469)
                        replace p469 := eq_true p469
                        replace q469 := eq_true q469
                        refine start_ (n := 15) (S := fun w' => w'.cell? (ad465.add ((x13_2).toNat * 2)) = some (.int .i64 ((rd_T35 t461 x13_2).f0)) ∧ w'.cell? ⟨(ad465.add ((x13_2).toNat * 2)).block, (ad465.add ((x13_2).toNat * 2)).off + 1, none⟩ = some (.int .i64 ((rd_T35 t461 x13_2).f1)) ∧ w'.cell? (ad465.add ((x13_2).toNat * 2)) = some (.int .i64 ((rd_T35 t461 x13_2).f0)) ∧ w'.cell? ⟨(ad465.add ((x13_2).toNat * 2)).block, (ad465.add ((x13_2).toNat * 2)).off + 1, none⟩ = some (.int .i64 ((rd_T35 t461 x13_2).f1))) (ds := []) #[false, false, false, false, false, false, false, false, false, false, false, false, false, false, false] (by kernel_rfl) rfl rfl ⟨hx465_0, hx465_1, hx469_0, hx469_1⟩ (fun hHeld => ?_); refine with_tabW verditerref06_Cases.tab16 verditerref06_Cases.bits16 (fun HT_ HW_ => ?_)
                        generalize wr.drew = w21 at HO_11 HO_12 HB hx465_0 hx465_1 hx469_0 hx469_1 hHeld ⊢
                        refine pure_ (i := 0) (N := some 45) (v := ?_) (a' := ?_) #[true, false, false, false, false, false, false, false, false, false, false, false, false, false, false] rfl rfl (any_of HT_.out (by kernel_rfl)) (fun _ _ _ h => h) (Or.inl ⟨by rfl, ?_⟩) ?_ ?_
                        rotate_left
                        · intro w'
                          go_simp
                          with_reducible rfl
                        rotate_left
                        · simp only [Act.put, List.setIfInBounds_toArray, List.set_cons_zero, List.set_cons_succ, i64_w, i32_w]
                          rfl
                        refine pure_ (i := 1) (N := some 46) (v := ?_) (a' := ?_) #[true, true, false, false, false, false, false, false, false, false, false, false, false, false, false] rfl rfl (any_of HT_.out (by kernel_rfl)) (fun _ _ _ h => h) (Or.inl ⟨by rfl, ?_⟩) ?_ ?_
                        rotate_left
                        · intro w'
                          go_simp
                          with_reducible rfl
                        rotate_left
                        · simp only [Act.put, List.setIfInBounds_toArray, List.set_cons_zero, List.set_cons_succ, i64_w, i32_w]
                          rfl
                        refine pure_ (i := 2) (N := some 47) (v := ?_) (a' := ?_) #[true, true, true, false, false, false, false, false, false, false, false, false, false, false, false] rfl rfl (any_of HT_.out (by kernel_rfl)) (fun _ _ _ h => h) (Or.inl ⟨by rfl, ?_⟩) ?_ ?_
                        rotate_left
                        · intro w'
                          go_simp
                          with_reducible rfl
                        rotate_left
                        · simp only [Act.put, List.setIfInBounds_toArray, List.set_cons_zero, List.set_cons_succ, i64_w, i32_w]
                          rfl
                        refine pure_ (i := 3) (N := some 48) (v := ?_) (a' := ?_) #[true, true, true, true, false, false, false, false, false, false, false, false, false, false, false] rfl rfl (any_of HT_.out (by kernel_rfl)) (fun _ _ _ h => h) (Or.inl ⟨by rfl, ?_⟩) ?_ ?_
                        rotate_left
                        · intro w'
                          go_simp
                          with_reducible rfl
                        rotate_left
                        · simp only [Act.put, List.setIfInBounds_toArray, List.set_cons_zero, List.set_cons_succ, i64_w, i32_w]
                          rfl
                        refine pure_ (i := 4) (N := some 49) (v := ?_) (a' := ?_) #[true, true, true, true, true, false, false, false, false, false, false, false, false, false, false] rfl rfl (any_of HT_.out (by kernel_rfl)) (fun _ _ _ h => h) (Or.inl ⟨by rfl, ?_⟩) ?_ ?_
                        rotate_left
                        · intro w'
                          go_simp
                          with_reducible rfl
                        rotate_left
                        · simp only [Act.put, List.setIfInBounds_toArray, List.set_cons_zero, List.set_cons_succ, i64_w, i32_w]
                          rfl
                        refine pure_ (i := 7) (N := some 52) (v := ?_) (a' := ?_) #[true, true, true, true, true, false, false, true, false, false, false, false, false, false, false] rfl rfl (any_of HT_.out (by kernel_rfl)) (fun _ _ _ h => h) (Or.inl ⟨by rfl, ?_⟩) ?_ ?_
                        rotate_left
                        · intro w'
                          go_simp
                          with_reducible rfl
                        rotate_left
                        · simp only [Act.put, List.setIfInBounds_toArray, List.set_cons_zero, List.set_cons_succ, i64_w, i32_w]
                          rfl
                        refine pure_ (i := 8) (N := some 53) (v := ?_) (a' := ?_) #[true, true, true, true, true, false, false, true, true, false, false, false, false, false, false] rfl rfl (any_of HT_.out (by kernel_rfl)) (fun _ _ _ h => h) (Or.inl ⟨by rfl, ?_⟩) ?_ ?_
                        rotate_left
                        · intro w'
                          go_simp
                          with_reducible rfl
                        rotate_left
                        · simp only [Act.put, List.setIfInBounds_toArray, List.set_cons_zero, List.set_cons_succ, i64_w, i32_w]
                          rfl
                        refine pure_ (i := 9) (N := some 54) (v := ?_) (a' := ?_) #[true, true, true, true, true, false, false, true, true, true, false, false, false, false, false] rfl rfl (any_of HT_.out (by kernel_rfl)) (fun _ _ _ h => h) (Or.inl ⟨by rfl, ?_⟩) ?_ ?_
                        rotate_left
                        · intro w'
                          go_simp
                          with_reducible rfl
                        rotate_left
                        · simp only [Act.put, List.setIfInBounds_toArray, List.set_cons_zero, List.set_cons_succ, i64_w, i32_w]
                          rfl
                        refine pure_ (i := 10) (N := some 55) (v := ?_) (a' := ?_) #[true, true, true, true, true, false, false, true, true, true, true, false, false, false, false] rfl rfl (any_of HT_.out (by kernel_rfl)) (fun _ _ _ h => h) (Or.inl ⟨by rfl, ?_⟩) ?_ ?_
                        rotate_left
                        · intro w'
                          go_simp
                          with_reducible rfl
                        rotate_left
                        · simp only [Act.put, List.setIfInBounds_toArray, List.set_cons_zero, List.set_cons_succ, i64_w, i32_w]
                          rfl
                        refine pure_ (i := 13) (N := some 58) (v := ?_) (a' := ?_) #[true, true, true, true, true, false, false, true, true, true, true, false, false, true, false] rfl rfl (any_of HT_.out (by kernel_rfl)) (fun _ _ _ h => h) (Or.inl ⟨by rfl, ?_⟩) ?_ ?_
                        rotate_left
                        · intro w'
                          go_simp
                          with_reducible rfl
                        rotate_left
                        · simp only [Act.put, List.setIfInBounds_toArray, List.set_cons_zero, List.set_cons_succ, i64_w, i32_w]
                          rfl
                        refine take_ (i := 5) (N := some 50) (v := ?_) (a' := ?_) #[true, true, true, true, true, true, false, true, true, true, true, false, false, true, false] rfl rfl (take_ofW HT_.out HW_.out (by kernel_rfl)) (fun _ _ _ h => h) (Or.inl ⟨by rfl, ?_⟩) hHeld ?_ ?_
                        rotate_left
                        · rintro w' ⟨s0, s1, s2, s3⟩
                          go_simp
                          with_reducible rfl
                        rotate_left
                        · simp only [Act.put, List.setIfInBounds_toArray, List.set_cons_zero, List.set_cons_succ, i64_w, i32_w]
                          rfl
                        refine take_ (i := 11) (N := some 56) (v := ?_) (a' := ?_) #[true, true, true, true, true, true, false, true, true, true, true, true, false, true, false] rfl rfl (take_ofW HT_.out HW_.out (by kernel_rfl)) (fun _ _ _ h => h) (Or.inl ⟨by rfl, ?_⟩) hHeld ?_ ?_
                        rotate_left
                        · rintro w' ⟨s0, s1, s2, s3⟩
                          go_simp
                          with_reducible rfl
                        rotate_left
                        · simp only [Act.put, List.setIfInBounds_toArray, List.set_cons_zero, List.set_cons_succ, i64_w, i32_w]
                          rfl
                        refine one_ (i := 6) (N := some 51) #[true, true, true, true, true, true, true, true, true, true, true, true, false, true, false] rfl rfl (one_of HT_.out (by kernel_rfl)) (by decide) (fun K hK => ?_)
                        refine goes_ Try.func80 (by kernel_rfl) rfl #[.slice A1 l1.length c1, .int .i64 ((rd_T35 t461 x13_2).f0)] (by rfl) rfl rfl (by (try simp only [List.map_toArray, List.map_cons, List.map_nil]); first | done | rfl | (simp only [List.length_drop, List.length_take]; rfl)) ?_
                        with_reducible refine (verditerref06_mark.calls k2 _ _ l1 ((rd_T35 t461 x13_2).f0) t466 _ ?side1 ?side2 A15.out).mono ?_
                        (case side1 => repeat (first | exact (Kd.C_below HR1.out HB.out) | (with_reducible refine Kd.C_alloc ?_ _) | (with_reducible refine Kd.C_drewN ?_ _) | (with_reducible refine Kd.C_drew ?_)))
                        (case side2 => exact HC1.out)
                        rintro e w22 ⟨v467, rfl, ho0, hb⟩
                        have HS0_ := (hb.cell (World.block_lt_of_cell? _ _ (hHeld.1))).trans (hHeld.1)
                        have HS1_ := (hb.cell (World.block_lt_of_cell? _ _ (hHeld.2.1))).trans (hHeld.2.1)
                        have HS2_ := (hb.cell (World.block_lt_of_cell? _ _ (hHeld.2.2.1))).trans (hHeld.2.2.1)
                        have HS3_ := (hb.cell (World.block_lt_of_cell? _ _ (hHeld.2.2.2))).trans (hHeld.2.2.2)
                        refine ⟨_, rfl, ?_⟩
                        have n0_ := Aside0.mk (Kd.R_below (by (with_reducible repeat (first | apply Kd.R_alloc | apply Kd.R_drewN | apply Kd.R_drew)); exact HO_11.out) hb)
                        have n1_ := Aside0.mk (Kd.R_below (by (with_reducible repeat (first | apply Kd.R_alloc | apply Kd.R_drewN | apply Kd.R_drew)); exact HO_12.out) hb)
                        have n2_ := Aside0.mk (Kd.R_lower ho0 (below_size (by repeat (first | (with_reducible first | exact HB.out | apply below_alloc | apply pw_below_drewN | apply below_drew1) | exact HB.out))))
                        have n3_ := Aside0.mk (below_step (by repeat (first | (with_reducible first | exact HB.out | apply below_alloc | apply pw_below_drewN | apply below_drew1) | exact HB.out)) hb)
                        clear HO_11
                        clear HO_12
                        clear HB
                        have HO_11 := n0_
                        have HO_12 := n1_
                        have HO468 := n2_
                        have HB := n3_
                        clear n0_ n1_ n2_ n3_
                        (try clear hb)
                        (try clear hb2)
                        (try clear hk)
                        (try clear hi)
                        (try clear ho0)
                        obtain ⟨Ao23, co23, eo23⟩ := Kd.R_slice HO468.out
                        (first | subst eo23 | (injection eo23 with f1_ f2_ f3_; have f4_ := f1_.symm; have f5_ := f3_.symm; clear f1_ f2_ f3_; subst f4_; subst f5_))
                        refine hK.out _ _ ⟨HS0_, HS1_, HS2_, HS3_⟩ (fun hHeld => ?_)
                        clear hK K
                        refine norm_ (a' := ?_) ?_ ?_
                        rotate_left
                        · show Act.put _ (some 51) _ = _
                          simp only [Act.put, List.setIfInBounds_toArray, List.set_cons_zero, List.set_cons_succ, i64_w, i32_w]
                          rfl
                        refine one_ (i := 12) (N := some 57) #[true, true, true, true, true, true, true, true, true, true, true, true, true, true, false] rfl rfl (one_of HT_.out (by kernel_rfl)) (by decide) (fun K hK => ?_)
                        refine goes_ Try.func79 (by kernel_rfl) rfl #[.slice Ao23 t466.length co23, .int .i64 ((rd_T35 t461 x13_2).f1)] (by rfl) rfl rfl (by (try simp only [List.map_toArray, List.map_cons, List.map_nil]); first | done | rfl | (simp only [List.length_drop, List.length_take]; rfl)) ?_
                        with_reducible refine (verditerref06_times.calls k2 _ _ t466 ((rd_T35 t461 x13_2).f1) t470 _ ?side1 ?side2 A16.out).mono ?_
                        (case side1 => repeat (first | exact (Kd.R_reads' HO468.out).2.2 | (with_reducible refine Kd.C_alloc ?_ _) | (with_reducible refine Kd.C_drewN ?_ _) | (with_reducible refine Kd.C_drew ?_)))
                        (case side2 => exact (Kd.R_reads' HO468.out).2.1)
                        rintro e w24 ⟨v471, rfl, ho0, hb⟩
                        have HS0_ := (hb.cell (World.block_lt_of_cell? _ _ (hHeld.1))).trans (hHeld.1)
                        have HS1_ := (hb.cell (World.block_lt_of_cell? _ _ (hHeld.2.1))).trans (hHeld.2.1)
                        have HS2_ := (hb.cell (World.block_lt_of_cell? _ _ (hHeld.2.2.1))).trans (hHeld.2.2.1)
                        have HS3_ := (hb.cell (World.block_lt_of_cell? _ _ (hHeld.2.2.2))).trans (hHeld.2.2.2)
                        refine ⟨_, rfl, ?_⟩
                        have n0_ := Aside0.mk (Kd.R_below (by (with_reducible repeat (first | apply Kd.R_alloc | apply Kd.R_drewN | apply Kd.R_drew)); exact HO_11.out) hb)
                        have n1_ := Aside0.mk (Kd.R_below (by (with_reducible repeat (first | apply Kd.R_alloc | apply Kd.R_drewN | apply Kd.R_drew)); exact HO_12.out) hb)
                        have n2_ := Aside0.mk (Kd.R_elder' (by (with_reducible repeat (first | apply Kd.R_alloc | apply Kd.R_drewN | apply Kd.R_drew)); exact HO468.out) (Kd.R_base ho0) hb)
                        have n3_ := Aside0.mk (Kd.R_lower (Kd.R_new' ho0 (Kd.R_lt (by (with_reducible repeat (first | apply Kd.R_alloc | apply Kd.R_drewN | apply Kd.R_drew)); exact HO468.out))) (below_size (by repeat (first | (with_reducible first | exact HB.out | apply below_alloc | apply pw_below_drewN | apply below_drew1) | exact HB.out))))
                        have n4_ := Aside0.mk (below_step (by repeat (first | (with_reducible first | exact HB.out | apply below_alloc | apply pw_below_drewN | apply below_drew1) | exact HB.out)) hb)
                        clear HO_11
                        clear HO_12
                        clear HO468
                        clear HB
                        have HO_11 := n0_
                        have HO_12 := n1_
                        have HO468 := n2_
                        have HO472 := n3_
                        have HB := n4_
                        clear n0_ n1_ n2_ n3_ n4_
                        (try clear hb)
                        (try clear hb2)
                        (try clear hk)
                        (try clear hi)
                        (try clear ho0)
                        obtain ⟨Ao25, co25, eo25⟩ := Kd.R_slice HO472.out
                        (first | subst eo25 | (injection eo25 with f1_ f2_ f3_; have f4_ := f1_.symm; have f5_ := f3_.symm; clear f1_ f2_ f3_; subst f4_; subst f5_))
                        refine hK.out _ _ ⟨HS0_, HS1_, HS2_, HS3_⟩ (fun hHeld => ?_)
                        clear hK K
                        refine norm_ (a' := ?_) ?_ ?_
                        rotate_left
                        · show Act.put _ (some 57) _ = _
                          simp only [Act.put, List.setIfInBounds_toArray, List.set_cons_zero, List.set_cons_succ, i64_w, i32_w]
                          rfl
                        refine one_ (i := 14) (N := some 59) #[true, true, true, true, true, true, true, true, true, true, true, true, true, true, true] rfl rfl (one_of HT_.out (by kernel_rfl)) (by decide) (fun K hK => ?_)
                        refine goes_ Try.func60 (by kernel_rfl) rfl #[.slice Ao25 t470.length co25, .slice A2 l2.length c2] (by rfl) rfl rfl (by (try simp only [List.map_toArray, List.map_cons, List.map_nil]); first | done | rfl | (simp only [List.length_drop, List.length_take]; rfl)) ?_
                        with_reducible refine (verditerref06_SameInts.calls k2 _ _ t470 _ _ l2 true _ ?side1 ?side2 ?side3 ?side4 A17.out).mono ?_
                        (case side1 => repeat (first | exact (Kd.R_reads' HO472.out).2.2 | (with_reducible refine Kd.C_alloc ?_ _) | (with_reducible refine Kd.C_drewN ?_ _) | (with_reducible refine Kd.C_drew ?_)))
                        (case side2 => exact (Kd.R_reads' HO472.out).2.1)
                        (case side3 => repeat (first | exact (Kd.C_below HR2.out HB.out) | (with_reducible refine Kd.C_alloc ?_ _) | (with_reducible refine Kd.C_drewN ?_ _) | (with_reducible refine Kd.C_drew ?_)))
                        (case side4 => exact HC2.out)
                        rintro e w' ⟨rfl, ⟨nd, rfl⟩⟩
                        refine ⟨_, rfl, ?_⟩
                        refine hK.out _ _ ⟨hHeld.1, hHeld.2.1, hHeld.2.2.1, hHeld.2.2.2⟩ (fun hHeld => ?_)
                        clear hK K
                        refine norm_ (a' := ?_) ?_ ?_
                        rotate_left
                        · show Act.put _ (some 59) _ = _
                          simp only [Act.put, List.setIfInBounds_toArray, List.set_cons_zero, List.set_cons_succ, i64_w, i32_w]
                          rfl
                        refine done_ (done_of HT_.out (by kernel_rfl)) ?_
                        have p474 : 0 ≤ (x13_2 : Int) := of_decide_eq_true (by first | (with_reducible assumption) | assumption)
                        have q474 : x13_2 < (t461.length : Int) := of_decide_eq_true (by first | (with_reducible assumption) | assumption)
                        obtain ⟨ad474, e474, hx474_0, hx474_1⟩ := at_T35 (Kd.R_reads' HO_11.out).2.2 x13_2 p474 q474
                        obtain rfl : ad465 = ad474 := (by injection e474)
                        replace p474 := eq_true p474
                        replace q474 := eq_true q474
                        try go_wp2_with (first | ((with_reducible refine gate_builtin (b := .append) (xs := #[.tmp 60, .tmp 65]) rfl ?_); at_builtin; refine Kd.R_append k35 (w0 := w) w.heap.size rfl (.tmp 60) (.tmp 65) 71 35 (.agg #[(.int .i64 0), (.int .i64 0)]) 16 rfl Try.underlying71 info35 rfl (by decide) (by omega) u12 x12_2 (⟨(rd_T35 t461 x13_2).f0, (rd_T35 t461 x13_2).f1⟩ : S35) [.int .i64 ((rd_T35 t461 x13_2).f0), .int .i64 ((rd_T35 t461 x13_2).f1)] (fun k_ => some k_ ≠ (.slice (some ad465) t461.length co20 : Value).ownBlock) (fun _ => False) rfl rfl ?aP (fun _ hk => hk.elim) ?aF ?aO ?aB ?aS ?aL ?_; (case aP => exact k35_mkM _ _ _ (⟨(rd_T35 t461 x13_2).f0, (rd_T35 t461 x13_2).f1⟩ : S35)); (case aB => exact (by repeat (first | (with_reducible first | exact HB.out | apply below_alloc | apply pw_below_drewN | apply below_drew1) | exact HB.out))); (case aF => exact (fun k_ hk => Kd.fresh' (Kd.R_lt (by (with_reducible repeat (first | apply Kd.R_alloc | apply Kd.R_drewN | apply Kd.R_drew)); exact HO_11.out)) k_ hk)); (case aO => exact (by (with_reducible repeat (first | apply Kd.R_alloc | apply Kd.R_drewN | apply Kd.R_drew)); exact HO_12.out)); (case aS => exact (below_size (by repeat (first | (with_reducible first | exact HB.out | apply below_alloc | apply pw_below_drewN | apply below_drew1) | exact HB.out)))); (case aL => have := LMc19.out; omega); intro v476 w26 ho hb hg hat; rw [← Ny475.out] at ho; have n0_ := Aside0.mk (Kd.R_after (ok := (fun _ => True)) (by (with_reducible repeat (first | apply Kd.R_alloc | apply Kd.R_drewN | apply Kd.R_drew)); exact Kd.R_mono HO_11.out (fun _ hk => ⟨trivial, hk⟩)) hg hat); have n1_ := Aside0.mk (Kd.R_over' (by (with_reducible repeat (first | apply Kd.R_alloc | apply Kd.R_drewN | apply Kd.R_drew)); exact HO468.out) (Kd.R_typed (by (with_reducible repeat (first | apply Kd.R_alloc | apply Kd.R_drewN | apply Kd.R_drew)); exact HO_12.out)) (by decide) hg); have n2_ := Aside0.mk (Kd.R_over' (by (with_reducible repeat (first | apply Kd.R_alloc | apply Kd.R_drewN | apply Kd.R_drew)); exact HO472.out) (Kd.R_typed (by (with_reducible repeat (first | apply Kd.R_alloc | apply Kd.R_drewN | apply Kd.R_drew)); exact HO_12.out)) (by decide) hg); have n3_ := Aside0.mk (hb); have n4_ := Aside0.mk (ho); clear HO_11; clear HO468; clear HO472; clear HB; clear HO_12; have HO_11 := n0_; have HO468 := n1_; have HO472 := n2_; have HB := n3_; have HO477 := n4_; clear n0_ n1_ n2_ n3_ n4_; clear ho hb hg hat))
                        go_roundg k2
                        case measure => have := HK1.out; have := HK2.out; omega
                        case rel => exact ⟨(y475), (wrap64 (x13_2 + 1)), (by first | rfl | (simp; done) | (simp [*]; done)), H', ⟨by have := HK1.out; have := HK2.out; omega⟩, ⟨by (with_reducible repeat (first | apply Kd.R_alloc | apply Kd.R_drewN | apply Kd.R_drew)); exact Kd.R_mono HO_11.out (fun _ hk => hk.2)⟩, ⟨by (with_reducible repeat (first | apply Kd.R_alloc | apply Kd.R_drewN | apply Kd.R_drew)); exact HO477.out⟩, ⟨by repeat (first | (with_reducible first | exact HB.out | apply below_alloc | apply pw_below_drewN | apply below_drew1) | exact HB.out)⟩⟩
                      · rw [if_neg c19] at H
                        exact absurd H (by simp)
                    · replace c18 := Bool.eq_false_iff.mpr c18
                      subst c18
                      have H1 : (verditerref06_Cases.l1 k2 l1 l2 t461 x12_2 (wrap64 (x13_2 + 1))) = some (r1, r2, r3) := by rw [if_neg (show ¬ (false = true) by decide)] at H; exact H
                      clear H
                      have H := H1
                      clear H1
                      have H' := Aside0.mk H
                      clear H
                      obtain ⟨Ao27, co27, eo27⟩ := Kd.R_slice HO_11.out
                      subst eo27
                      try go_wp2
                      have n0_ := Aside0.mk (Kd.R_drew HO_11.out)
                      have n1_ := Aside0.mk (Kd.R_drew HO_12.out)
                      have n2_ := Aside0.mk (below_drew1 HB.out)
                      clear HO_11
                      clear HO_12
                      clear HB
                      have HO_11 := n0_
                      have HO_12 := n1_
                      have HB := n2_
                      clear n0_ n1_ n2_
                      have p465 : 0 ≤ (x13_2 : Int) := of_decide_eq_true (by first | (with_reducible assumption) | assumption)
                      have q465 : x13_2 < (t461.length : Int) := of_decide_eq_true (by first | (with_reducible assumption) | assumption)
                      obtain ⟨ad465, e465, hx465_0, hx465_1⟩ := at_T35 (Kd.R_reads' HO_11.out).2.2 x13_2 p465 q465
                      cases e465
                      replace p465 := eq_true p465
                      replace q465 := eq_true q465
                      have p469 : 0 ≤ (x13_2 : Int) := of_decide_eq_true (by first | (with_reducible assumption) | assumption)
                      have q469 : x13_2 < (t461.length : Int) := of_decide_eq_true (by first | (with_reducible assumption) | assumption)
                      obtain ⟨ad469, e469, hx469_0, hx469_1⟩ := at_T35 (Kd.R_reads' HO_11.out).2.2 x13_2 p469 q469
                      obtain rfl : ad465 = ad469 := (by injection e469)
                      replace p469 := eq_true p469
                      replace q469 := eq_true q469
                      refine start_ (n := 15) (S := fun w' => w'.cell? (ad465.add ((x13_2).toNat * 2)) = some (.int .i64 ((rd_T35 t461 x13_2).f0)) ∧ w'.cell? ⟨(ad465.add ((x13_2).toNat * 2)).block, (ad465.add ((x13_2).toNat * 2)).off + 1, none⟩ = some (.int .i64 ((rd_T35 t461 x13_2).f1)) ∧ w'.cell? (ad465.add ((x13_2).toNat * 2)) = some (.int .i64 ((rd_T35 t461 x13_2).f0)) ∧ w'.cell? ⟨(ad465.add ((x13_2).toNat * 2)).block, (ad465.add ((x13_2).toNat * 2)).off + 1, none⟩ = some (.int .i64 ((rd_T35 t461 x13_2).f1))) (ds := []) #[false, false, false, false, false, false, false, false, false, false, false, false, false, false, false] (by kernel_rfl) rfl rfl ⟨hx465_0, hx465_1, hx469_0, hx469_1⟩ (fun hHeld => ?_); refine with_tabW verditerref06_Cases.tab16 verditerref06_Cases.bits16 (fun HT_ HW_ => ?_)
                      generalize wr.drew = w28 at HO_11 HO_12 HB hx465_0 hx465_1 hx469_0 hx469_1 hHeld ⊢
                      refine pure_ (i := 0) (N := some 45) (v := ?_) (a' := ?_) #[true, false, false, false, false, false, false, false, false, false, false, false, false, false, false] rfl rfl (any_of HT_.out (by kernel_rfl)) (fun _ _ _ h => h) (Or.inl ⟨by rfl, ?_⟩) ?_ ?_
                      rotate_left
                      · intro w'
                        go_simp
                        with_reducible rfl
                      rotate_left
                      · simp only [Act.put, List.setIfInBounds_toArray, List.set_cons_zero, List.set_cons_succ, i64_w, i32_w]
                        rfl
                      refine pure_ (i := 1) (N := some 46) (v := ?_) (a' := ?_) #[true, true, false, false, false, false, false, false, false, false, false, false, false, false, false] rfl rfl (any_of HT_.out (by kernel_rfl)) (fun _ _ _ h => h) (Or.inl ⟨by rfl, ?_⟩) ?_ ?_
                      rotate_left
                      · intro w'
                        go_simp
                        with_reducible rfl
                      rotate_left
                      · simp only [Act.put, List.setIfInBounds_toArray, List.set_cons_zero, List.set_cons_succ, i64_w, i32_w]
                        rfl
                      refine pure_ (i := 2) (N := some 47) (v := ?_) (a' := ?_) #[true, true, true, false, false, false, false, false, false, false, false, false, false, false, false] rfl rfl (any_of HT_.out (by kernel_rfl)) (fun _ _ _ h => h) (Or.inl ⟨by rfl, ?_⟩) ?_ ?_
                      rotate_left
                      · intro w'
                        go_simp
                        with_reducible rfl
                      rotate_left
                      · simp only [Act.put, List.setIfInBounds_toArray, List.set_cons_zero, List.set_cons_succ, i64_w, i32_w]
                        rfl
                      refine pure_ (i := 3) (N := some 48) (v := ?_) (a' := ?_) #[true, true, true, true, false, false, false, false, false, false, false, false, false, false, false] rfl rfl (any_of HT_.out (by kernel_rfl)) (fun _ _ _ h => h) (Or.inl ⟨by rfl, ?_⟩) ?_ ?_
                      rotate_left
                      · intro w'
                        go_simp
                        with_reducible rfl
                      rotate_left
                      · simp only [Act.put, List.setIfInBounds_toArray, List.set_cons_zero, List.set_cons_succ, i64_w, i32_w]
                        rfl
                      refine pure_ (i := 4) (N := some 49) (v := ?_) (a' := ?_) #[true, true, true, true, true, false, false, false, false, false, false, false, false, false, false] rfl rfl (any_of HT_.out (by kernel_rfl)) (fun _ _ _ h => h) (Or.inl ⟨by rfl, ?_⟩) ?_ ?_
                      rotate_left
                      · intro w'
                        go_simp
                        with_reducible rfl
                      rotate_left
                      · simp only [Act.put, List.setIfInBounds_toArray, List.set_cons_zero, List.set_cons_succ, i64_w, i32_w]
                        rfl
                      refine pure_ (i := 7) (N := some 52) (v := ?_) (a' := ?_) #[true, true, true, true, true, false, false, true, false, false, false, false, false, false, false] rfl rfl (any_of HT_.out (by kernel_rfl)) (fun _ _ _ h => h) (Or.inl ⟨by rfl, ?_⟩) ?_ ?_
                      rotate_left
                      · intro w'
                        go_simp
                        with_reducible rfl
                      rotate_left
                      · simp only [Act.put, List.setIfInBounds_toArray, List.set_cons_zero, List.set_cons_succ, i64_w, i32_w]
                        rfl
                      refine pure_ (i := 8) (N := some 53) (v := ?_) (a' := ?_) #[true, true, true, true, true, false, false, true, true, false, false, false, false, false, false] rfl rfl (any_of HT_.out (by kernel_rfl)) (fun _ _ _ h => h) (Or.inl ⟨by rfl, ?_⟩) ?_ ?_
                      rotate_left
                      · intro w'
                        go_simp
                        with_reducible rfl
                      rotate_left
                      · simp only [Act.put, List.setIfInBounds_toArray, List.set_cons_zero, List.set_cons_succ, i64_w, i32_w]
                        rfl
                      refine pure_ (i := 9) (N := some 54) (v := ?_) (a' := ?_) #[true, true, true, true, true, false, false, true, true, true, false, false, false, false, false] rfl rfl (any_of HT_.out (by kernel_rfl)) (fun _ _ _ h => h) (Or.inl ⟨by rfl, ?_⟩) ?_ ?_
                      rotate_left
                      · intro w'
                        go_simp
                        with_reducible rfl
                      rotate_left
                      · simp only [Act.put, List.setIfInBounds_toArray, List.set_cons_zero, List.set_cons_succ, i64_w, i32_w]
                        rfl
                      refine pure_ (i := 10) (N := some 55) (v := ?_) (a' := ?_) #[true, true, true, true, true, false, false, true, true, true, true, false, false, false, false] rfl rfl (any_of HT_.out (by kernel_rfl)) (fun _ _ _ h => h) (Or.inl ⟨by rfl, ?_⟩) ?_ ?_
                      rotate_left
                      · intro w'
                        go_simp
                        with_reducible rfl
                      rotate_left
                      · simp only [Act.put, List.setIfInBounds_toArray, List.set_cons_zero, List.set_cons_succ, i64_w, i32_w]
                        rfl
                      refine pure_ (i := 13) (N := some 58) (v := ?_) (a' := ?_) #[true, true, true, true, true, false, false, true, true, true, true, false, false, true, false] rfl rfl (any_of HT_.out (by kernel_rfl)) (fun _ _ _ h => h) (Or.inl ⟨by rfl, ?_⟩) ?_ ?_
                      rotate_left
                      · intro w'
                        go_simp
                        with_reducible rfl
                      rotate_left
                      · simp only [Act.put, List.setIfInBounds_toArray, List.set_cons_zero, List.set_cons_succ, i64_w, i32_w]
                        rfl
                      refine take_ (i := 5) (N := some 50) (v := ?_) (a' := ?_) #[true, true, true, true, true, true, false, true, true, true, true, false, false, true, false] rfl rfl (take_ofW HT_.out HW_.out (by kernel_rfl)) (fun _ _ _ h => h) (Or.inl ⟨by rfl, ?_⟩) hHeld ?_ ?_
                      rotate_left
                      · rintro w' ⟨s0, s1, s2, s3⟩
                        go_simp
                        with_reducible rfl
                      rotate_left
                      · simp only [Act.put, List.setIfInBounds_toArray, List.set_cons_zero, List.set_cons_succ, i64_w, i32_w]
                        rfl
                      refine take_ (i := 11) (N := some 56) (v := ?_) (a' := ?_) #[true, true, true, true, true, true, false, true, true, true, true, true, false, true, false] rfl rfl (take_ofW HT_.out HW_.out (by kernel_rfl)) (fun _ _ _ h => h) (Or.inl ⟨by rfl, ?_⟩) hHeld ?_ ?_
                      rotate_left
                      · rintro w' ⟨s0, s1, s2, s3⟩
                        go_simp
                        with_reducible rfl
                      rotate_left
                      · simp only [Act.put, List.setIfInBounds_toArray, List.set_cons_zero, List.set_cons_succ, i64_w, i32_w]
                        rfl
                      refine one_ (i := 6) (N := some 51) #[true, true, true, true, true, true, true, true, true, true, true, true, false, true, false] rfl rfl (one_of HT_.out (by kernel_rfl)) (by decide) (fun K hK => ?_)
                      refine goes_ Try.func80 (by kernel_rfl) rfl #[.slice A1 l1.length c1, .int .i64 ((rd_T35 t461 x13_2).f0)] (by rfl) rfl rfl (by (try simp only [List.map_toArray, List.map_cons, List.map_nil]); first | done | rfl | (simp only [List.length_drop, List.length_take]; rfl)) ?_
                      with_reducible refine (verditerref06_mark.calls k2 _ _ l1 ((rd_T35 t461 x13_2).f0) t466 _ ?side1 ?side2 A15.out).mono ?_
                      (case side1 => repeat (first | exact (Kd.C_below HR1.out HB.out) | (with_reducible refine Kd.C_alloc ?_ _) | (with_reducible refine Kd.C_drewN ?_ _) | (with_reducible refine Kd.C_drew ?_)))
                      (case side2 => exact HC1.out)
                      rintro e w29 ⟨v467, rfl, ho0, hb⟩
                      have HS0_ := (hb.cell (World.block_lt_of_cell? _ _ (hHeld.1))).trans (hHeld.1)
                      have HS1_ := (hb.cell (World.block_lt_of_cell? _ _ (hHeld.2.1))).trans (hHeld.2.1)
                      have HS2_ := (hb.cell (World.block_lt_of_cell? _ _ (hHeld.2.2.1))).trans (hHeld.2.2.1)
                      have HS3_ := (hb.cell (World.block_lt_of_cell? _ _ (hHeld.2.2.2))).trans (hHeld.2.2.2)
                      refine ⟨_, rfl, ?_⟩
                      have n0_ := Aside0.mk (Kd.R_below (by (with_reducible repeat (first | apply Kd.R_alloc | apply Kd.R_drewN | apply Kd.R_drew)); exact HO_11.out) hb)
                      have n1_ := Aside0.mk (Kd.R_below (by (with_reducible repeat (first | apply Kd.R_alloc | apply Kd.R_drewN | apply Kd.R_drew)); exact HO_12.out) hb)
                      have n2_ := Aside0.mk (Kd.R_lower ho0 (below_size (by repeat (first | (with_reducible first | exact HB.out | apply below_alloc | apply pw_below_drewN | apply below_drew1) | exact HB.out))))
                      have n3_ := Aside0.mk (below_step (by repeat (first | (with_reducible first | exact HB.out | apply below_alloc | apply pw_below_drewN | apply below_drew1) | exact HB.out)) hb)
                      clear HO_11
                      clear HO_12
                      clear HB
                      have HO_11 := n0_
                      have HO_12 := n1_
                      have HO468 := n2_
                      have HB := n3_
                      clear n0_ n1_ n2_ n3_
                      (try clear hb)
                      (try clear hb2)
                      (try clear hk)
                      (try clear hi)
                      (try clear ho0)
                      obtain ⟨Ao30, co30, eo30⟩ := Kd.R_slice HO468.out
                      (first | subst eo30 | (injection eo30 with f1_ f2_ f3_; have f4_ := f1_.symm; have f5_ := f3_.symm; clear f1_ f2_ f3_; subst f4_; subst f5_))
                      refine hK.out _ _ ⟨HS0_, HS1_, HS2_, HS3_⟩ (fun hHeld => ?_)
                      clear hK K
                      refine norm_ (a' := ?_) ?_ ?_
                      rotate_left
                      · show Act.put _ (some 51) _ = _
                        simp only [Act.put, List.setIfInBounds_toArray, List.set_cons_zero, List.set_cons_succ, i64_w, i32_w]
                        rfl
                      refine one_ (i := 12) (N := some 57) #[true, true, true, true, true, true, true, true, true, true, true, true, true, true, false] rfl rfl (one_of HT_.out (by kernel_rfl)) (by decide) (fun K hK => ?_)
                      refine goes_ Try.func79 (by kernel_rfl) rfl #[.slice Ao30 t466.length co30, .int .i64 ((rd_T35 t461 x13_2).f1)] (by rfl) rfl rfl (by (try simp only [List.map_toArray, List.map_cons, List.map_nil]); first | done | rfl | (simp only [List.length_drop, List.length_take]; rfl)) ?_
                      with_reducible refine (verditerref06_times.calls k2 _ _ t466 ((rd_T35 t461 x13_2).f1) t470 _ ?side1 ?side2 A16.out).mono ?_
                      (case side1 => repeat (first | exact (Kd.R_reads' HO468.out).2.2 | (with_reducible refine Kd.C_alloc ?_ _) | (with_reducible refine Kd.C_drewN ?_ _) | (with_reducible refine Kd.C_drew ?_)))
                      (case side2 => exact (Kd.R_reads' HO468.out).2.1)
                      rintro e w31 ⟨v471, rfl, ho0, hb⟩
                      have HS0_ := (hb.cell (World.block_lt_of_cell? _ _ (hHeld.1))).trans (hHeld.1)
                      have HS1_ := (hb.cell (World.block_lt_of_cell? _ _ (hHeld.2.1))).trans (hHeld.2.1)
                      have HS2_ := (hb.cell (World.block_lt_of_cell? _ _ (hHeld.2.2.1))).trans (hHeld.2.2.1)
                      have HS3_ := (hb.cell (World.block_lt_of_cell? _ _ (hHeld.2.2.2))).trans (hHeld.2.2.2)
                      refine ⟨_, rfl, ?_⟩
                      have n0_ := Aside0.mk (Kd.R_below (by (with_reducible repeat (first | apply Kd.R_alloc | apply Kd.R_drewN | apply Kd.R_drew)); exact HO_11.out) hb)
                      have n1_ := Aside0.mk (Kd.R_below (by (with_reducible repeat (first | apply Kd.R_alloc | apply Kd.R_drewN | apply Kd.R_drew)); exact HO_12.out) hb)
                      have n2_ := Aside0.mk (Kd.R_elder' (by (with_reducible repeat (first | apply Kd.R_alloc | apply Kd.R_drewN | apply Kd.R_drew)); exact HO468.out) (Kd.R_base ho0) hb)
                      have n3_ := Aside0.mk (Kd.R_lower (Kd.R_new' ho0 (Kd.R_lt (by (with_reducible repeat (first | apply Kd.R_alloc | apply Kd.R_drewN | apply Kd.R_drew)); exact HO468.out))) (below_size (by repeat (first | (with_reducible first | exact HB.out | apply below_alloc | apply pw_below_drewN | apply below_drew1) | exact HB.out))))
                      have n4_ := Aside0.mk (below_step (by repeat (first | (with_reducible first | exact HB.out | apply below_alloc | apply pw_below_drewN | apply below_drew1) | exact HB.out)) hb)
                      clear HO_11
                      clear HO_12
                      clear HO468
                      clear HB
                      have HO_11 := n0_
                      have HO_12 := n1_
                      have HO468 := n2_
                      have HO472 := n3_
                      have HB := n4_
                      clear n0_ n1_ n2_ n3_ n4_
                      (try clear hb)
                      (try clear hb2)
                      (try clear hk)
                      (try clear hi)
                      (try clear ho0)
                      obtain ⟨Ao32, co32, eo32⟩ := Kd.R_slice HO472.out
                      (first | subst eo32 | (injection eo32 with f1_ f2_ f3_; have f4_ := f1_.symm; have f5_ := f3_.symm; clear f1_ f2_ f3_; subst f4_; subst f5_))
                      refine hK.out _ _ ⟨HS0_, HS1_, HS2_, HS3_⟩ (fun hHeld => ?_)
                      clear hK K
                      refine norm_ (a' := ?_) ?_ ?_
                      rotate_left
                      · show Act.put _ (some 57) _ = _
                        simp only [Act.put, List.setIfInBounds_toArray, List.set_cons_zero, List.set_cons_succ, i64_w, i32_w]
                        rfl
                      refine one_ (i := 14) (N := some 59) #[true, true, true, true, true, true, true, true, true, true, true, true, true, true, true] rfl rfl (one_of HT_.out (by kernel_rfl)) (by decide) (fun K hK => ?_)
                      refine goes_ Try.func60 (by kernel_rfl) rfl #[.slice Ao32 t470.length co32, .slice A2 l2.length c2] (by rfl) rfl rfl (by (try simp only [List.map_toArray, List.map_cons, List.map_nil]); first | done | rfl | (simp only [List.length_drop, List.length_take]; rfl)) ?_
                      with_reducible refine (verditerref06_SameInts.calls k2 _ _ t470 _ _ l2 false _ ?side1 ?side2 ?side3 ?side4 A17.out).mono ?_
                      (case side1 => repeat (first | exact (Kd.R_reads' HO472.out).2.2 | (with_reducible refine Kd.C_alloc ?_ _) | (with_reducible refine Kd.C_drewN ?_ _) | (with_reducible refine Kd.C_drew ?_)))
                      (case side2 => exact (Kd.R_reads' HO472.out).2.1)
                      (case side3 => repeat (first | exact (Kd.C_below HR2.out HB.out) | (with_reducible refine Kd.C_alloc ?_ _) | (with_reducible refine Kd.C_drewN ?_ _) | (with_reducible refine Kd.C_drew ?_)))
                      (case side4 => exact HC2.out)
                      rintro e w' ⟨rfl, ⟨nd, rfl⟩⟩
                      refine ⟨_, rfl, ?_⟩
                      refine hK.out _ _ ⟨hHeld.1, hHeld.2.1, hHeld.2.2.1, hHeld.2.2.2⟩ (fun hHeld => ?_)
                      clear hK K
                      refine norm_ (a' := ?_) ?_ ?_
                      rotate_left
                      · show Act.put _ (some 59) _ = _
                        simp only [Act.put, List.setIfInBounds_toArray, List.set_cons_zero, List.set_cons_succ, i64_w, i32_w]
                        rfl
                      refine done_ (done_of HT_.out (by kernel_rfl)) ?_
                      try go_wp2
                      go_roundg k2
                      case measure => have := HK1.out; have := HK2.out; omega
                      case rel => exact ⟨(x12_2), (wrap64 (x13_2 + 1)), (by first | rfl | (simp; done) | (simp [*]; done)), H', ⟨by have := HK1.out; have := HK2.out; omega⟩, ⟨by (with_reducible repeat (first | apply Kd.R_alloc | apply Kd.R_drewN | apply Kd.R_drew)); exact HO_11.out⟩, ⟨by (with_reducible repeat (first | apply Kd.R_alloc | apply Kd.R_drewN | apply Kd.R_drew)); exact HO_12.out⟩, ⟨by repeat (first | (with_reducible first | exact HB.out | apply below_alloc | apply pw_below_drewN | apply below_drew1) | exact HB.out)⟩⟩
                  · rw [if_neg c14] at H
                    exact absurd H (by simp)
                · rw [if_neg c13] at H
                  have c13b0 : decide (x13_2 < (t461.length : Int)) = false := decide_eq_false c13
                  clear c13
                  replace H := Option.bind_eq_some_iff.mp H
                  obtain ⟨t464, A330, H⟩ := H
                  replace H : (some (x12_2, t464, 0)) = some (r1, r2, r3) := H
                  have A33 := Aside0.mk A330
                  clear A330
                  simp only [Option.some.injEq, Prod.mk.injEq] at H
                  obtain ⟨rfl, rfl, rfl⟩ := H
                  obtain ⟨Ao34, co34, eo34⟩ := Kd.R_slice HO_11.out
                  subst eo34
                  go_wp2_with (first | ((with_reducible refine gate_callee (f := 81) rfl ?_); refine goesL_ (some 69) rfl rfl Try.func81 (by kernel_rfl) rfl #[.slice A2 l2.length c2] rfl (by (try simp only [List.map_toArray, List.map_cons, List.map_nil]); first | done | rfl | (simp only [List.length_drop, List.length_take]; rfl)) ?_; (with_reducible refine (verditerref06_isBlank.calls k2 _ _ l2 t464 _ ?side1 ?side2 A33.out).mono ?_); (case side1 => repeat (first | exact (Kd.C_below HR2.out HB.out) | (with_reducible refine Kd.C_alloc ?_ _) | (with_reducible refine Kd.C_drewN ?_ _) | (with_reducible refine Kd.C_drew ?_))); (case side2 => exact HC2.out); rintro e w' ⟨rfl, ⟨nd, rfl⟩⟩; refine ⟨_, rfl, ?_⟩))
                  go_ret3
                  exact ⟨_, by first | rfl | (simp [errW_none, errW_some] <;> rfl) | (simp [*, errW_none, errW_some] <;> rfl), by (with_reducible repeat (first | apply Kd.R_alloc | apply Kd.R_drewN | apply Kd.R_drew)); exact Kd.R_mono HO_12.out (fun _ hk => trivial), by repeat (first | (with_reducible first | exact HB.out | apply below_alloc | apply pw_below_drewN | apply below_drew1) | exact HB.out)⟩
    · rw [if_neg c6] at H
      have c6b0 : ((l2.length : Int) == (l1.length : Int)) = false := beq_eq_false_iff_ne.mpr c6
      have c6b1 : ((l2.length : Int) != (l1.length : Int)) = true := bne_iff_ne.mpr c6
      have c6b2 : (l2.length == l1.length) = false := by first | simpa using c6 | (simp at c6 ⊢; omega)
      simp only [Option.some.injEq, Prod.mk.injEq] at H
      obtain ⟨rfl, rfl, rfl⟩ := H
      go_enter Try.func63, Try.ntmps63
      go_wp2_with (first | ((with_reducible refine gate_callee (f := 59) rfl ?_); refine goesL_ (some 16) rfl rfl Try.func59 (by kernel_rfl) rfl #[.int .i64 a0, .slice A1 l1.length c1] rfl (by (try simp only [List.map_toArray, List.map_cons, List.map_nil]); first | done | rfl | (simp only [List.length_drop, List.length_take]; rfl)) ?_; (with_reducible refine (verditerref06_Validate.calls k a0 _ _ l1 t458 _ ?side1 ?side2 A4.out).mono ?_); (case side1 => repeat (first | exact HR1.out | (with_reducible refine Kd.C_alloc ?_ _) | (with_reducible refine Kd.C_drewN ?_ _) | (with_reducible refine Kd.C_drew ?_))); (case side2 => exact HC1.out); rintro e w' ⟨rfl, ⟨nd, rfl⟩⟩; refine ⟨_, rfl, ?_⟩))
      go_ret3
      exact ⟨_, by first | rfl | (simp [errW_none, errW_some] <;> rfl) | (simp [*, errW_none, errW_some] <;> rfl), by first | exact Kd.R_nil _ _ _ _ _ | exact Kd.N_nil _ _ _ _ _ | exact Kd.V_nil _ _ _ _ _ | exact Kd.Q_nil _ _ _ _ _ | exact Kd.S_nil _ _ _ _ _, by repeat (first | (with_reducible first | exact HB.out | apply below_alloc | apply pw_below_drewN | apply below_drew1) | exact HB.out)⟩
  · rw [if_neg c5] at H
    have c5b0 : (t458 == 0) = false := beq_eq_false_iff_ne.mpr c5
    have c5b1 : (t458 != 0) = true := bne_iff_ne.mpr c5
    simp only [Option.some.injEq, Prod.mk.injEq] at H
    obtain ⟨rfl, rfl, rfl⟩ := H
    go_enter Try.func63, Try.ntmps63
    go_wp2_with (first | ((with_reducible refine gate_callee (f := 59) rfl ?_); refine goesL_ (some 16) rfl rfl Try.func59 (by kernel_rfl) rfl #[.int .i64 a0, .slice A1 l1.length c1] rfl (by (try simp only [List.map_toArray, List.map_cons, List.map_nil]); first | done | rfl | (simp only [List.length_drop, List.length_take]; rfl)) ?_; (with_reducible refine (verditerref06_Validate.calls k a0 _ _ l1 t458 _ ?side1 ?side2 A4.out).mono ?_); (case side1 => repeat (first | exact HR1.out | (with_reducible refine Kd.C_alloc ?_ _) | (with_reducible refine Kd.C_drewN ?_ _) | (with_reducible refine Kd.C_drew ?_))); (case side2 => exact HC1.out); rintro e w' ⟨rfl, ⟨nd, rfl⟩⟩; refine ⟨_, rfl, ?_⟩))
    go_ret3
    exact ⟨_, by first | rfl | (simp [errW_none, errW_some] <;> rfl) | (simp [*, errW_none, errW_some] <;> rfl), by first | exact Kd.R_nil _ _ _ _ _ | exact Kd.N_nil _ _ _ _ _ | exact Kd.V_nil _ _ _ _ _ | exact Kd.Q_nil _ _ _ _ _ | exact Kd.S_nil _ _ _ _ _, by repeat (first | (with_reducible first | exact HB.out | apply below_alloc | apply pw_below_drewN | apply below_drew1) | exact HB.out)⟩

end Go.Proofs.Ytdbeochifofdoaa.X
end

section
-- Written by a program of this session (wip/hook.py, which runs the kit's print.py with contracts proved by hand). Not trusted: Lean checks it.
namespace Go.Proofs.Ytdbeochifofdoaa.X
open Go.RowKit Go.Proofs.YtdbeochifofdoaaW.PrintWords Go.Proofs.YtdbeochifofdoaaW.PrintLast Go.Proofs.YtdbeochifofdoaaW.PrintMore
attribute [local go_sem] max2_int min2_int max_two min_two max_three min_three max_four min_four   -- for this text's walks alone
set_option linter.unusedVariables false
set_option linter.unusedSimpArgs false

theorem eqA35 (d : Nat) (w : World) (x0 y0 : Int) (x1 y1 : Int) :
    (Op.equalIn (d + 2) 35 (.agg #[.int .i64 x0, .int .i64 x1]) (.agg #[.int .i64 y0, .int .i64 y1])).run Try.prog w = .ok (x0 == y0 && (x1 == y1)) w := by
  refine eqA_of Try.underlying35 (by kernel_rfl) ?_
  refine eqf_cons (by rfl) (by go_simp; rfl) (by go_simp; rfl) (by go_simp) ?_
  exact eqf_last (by rfl) (by go_simp; rfl) (by go_simp; rfl) (by go_simp)
end Go.Proofs.Ytdbeochifofdoaa.X
end

section
-- Written by a program of this session (wip/hook.py, which runs the kit's print.py with contracts proved by hand). Not trusted: Lean checks it.
namespace Go.Proofs.Ytdbeochifofdoaa.X
open Go.RowKit Go.Proofs.YtdbeochifofdoaaW.PrintWords Go.Proofs.YtdbeochifofdoaaW.PrintLast Go.Proofs.YtdbeochifofdoaaW.PrintMore
attribute [local go_sem] max2_int min2_int max_two min_two max_three min_three max_four min_four   -- for this text's walks alone
set_option linter.unusedVariables false
set_option linter.unusedSimpArgs false

attribute [local go_sem high] eqA35
/-! ### verditerref06_SameCases: function 65 -/
def verditerref06_SameCases.l0 : Nat → List (S35) → List (S35) → Int → Option (Bool)
  | 0, _, _, _ => none
  | k + 1, x0, x1, x5 => if x5 < (x0.length : Int) then (if 0 ≤ x5 then (if x5 < (x1.length : Int) then (if (!(((rd_T35 x0 x5).f0) == ((rd_T35 x1 x5).f0)) || (!(((rd_T35 x0 x5).f1) == ((rd_T35 x1 x5).f1)))) = true then (some false) else (verditerref06_SameCases.l0 k x0 x1 (wrap64 (x5 + 1)))) else (none)) else (none)) else (some true)
def verditerref06_SameCases.f (k : Nat) (l0 : List (S35)) (l1 : List (S35)) : Option (Bool) := if (l0.length : Int) = (l1.length : Int) then (verditerref06_SameCases.l0 k l0 l1 0) else (some false)
theorem verditerref06_SameCases.mono_l : ∀ k, (∀ y0 y1 y2, LeO (verditerref06_SameCases.l0 k y0 y1 y2) (verditerref06_SameCases.l0 (k + 1) y0 y1 y2))
  | 0 => fun _ _ _ r h => by simp [verditerref06_SameCases.l0] at h
  | k + 1 => by
    have ih0 := verditerref06_SameCases.mono_l k
    · intro y0 y1 y2
      unfold verditerref06_SameCases.l0
      repeat' first
      | (with_reducible exact ih0 _ _ _)
      | (with_reducible exact LeO.refl _)
      | (with_reducible exact LeO.none _)
      | (with_reducible refine LeO.ite ?_ ?_)
      | (with_reducible refine LeO.bind ?_ (fun _ => ?_))
      | exact ih0 _ _ _
      | exact LeO.none _
      | refine LeO.ite ?_ ?_
      | refine LeO.bind ?_ (fun _ => ?_)
theorem verditerref06_SameCases.mono : ∀ a0 a1 k, LeO (verditerref06_SameCases.f k a0 a1) (verditerref06_SameCases.f (k + 1) a0 a1) := by
  intro a0 a1 k
  have ih0 := verditerref06_SameCases.mono_l k
  unfold verditerref06_SameCases.f
  repeat' first
      | (with_reducible exact ih0 _ _ _)
      | (with_reducible exact LeO.refl _)
      | (with_reducible exact LeO.none _)
      | (with_reducible refine LeO.ite ?_ ?_)
      | (with_reducible refine LeO.bind ?_ (fun _ => ?_))
      | exact ih0 _ _ _
      | exact LeO.none _
      | refine LeO.ite ?_ ?_
      | refine LeO.bind ?_ (fun _ => ?_)
set_option maxHeartbeats 8000000 in
set_option maxRecDepth 100000 in
theorem verditerref06_SameCases.calls (k : Nat) (A0 : Option Addr) (c0 : Nat) (l0 : List (S35)) (A1 : Option Addr) (c1 : Nat) (l1 : List (S35)) (r : Bool) (w : World) (hr0 : Kd.C k35 w A0 l0.length l0) (hc0 : l0.length ≤ c0) (hr1 : Kd.C k35 w A1 l1.length l1) (hc1 : l1.length ≤ c1) (h : verditerref06_SameCases.f k l0 l1 = some r) :
    Calls Try.prog 65 #[.slice A0 l0.length c0, .slice A1 l1.length c1] w fun e w' => e = .returned (.bool r) ∧ Drawn0 w w' := by
  have hu35 := Try.underlying35
  have HR0 := Aside0.mk hr0
  have HC0 := Aside0.mk hc0
  clear hr0 hc0
  have HR1 := Aside0.mk hr1
  have HC1 := Aside0.mk hc1
  clear hr1 hc1
  have H : (if (l0.length : Int) = (l1.length : Int) then (verditerref06_SameCases.l0 k l0 l1 0) else (some false)) = some r := h
  clear h
  by_cases c3 : (l0.length : Int) = (l1.length : Int)
  · rw [if_pos c3] at H
    have c3b0 : ((l0.length : Int) == (l1.length : Int)) = true := beq_iff_eq.mpr c3
    have c3b1 : ((l0.length : Int) != (l1.length : Int)) = false := bne_eq_false_iff_eq.mpr c3
    have c3b2 : (l0.length == l1.length) = true := by first | simpa using c3 | (simp at c3 ⊢; omega)
    clear c3
    have H' := Aside0.mk H
    clear H
    go_enter Try.func65, Try.ntmps65
    go_wp2
    repeat (go_quiet (fail); try go_wp2)
    go_loopg [5] k (fun kq v5 w' => ∃ (x5_1 : Int), v5 = .int .i64 x5_1 ∧ Aside0 (verditerref06_SameCases.l0 kq l0 l1 x5_1 = some r) ∧ Aside0 (kq ≤ k) ∧ Drawn0 w w')
    case atStart => exact ⟨(0), (by first | rfl | (simp; done) | (simp [*]; done)), H', ⟨Nat.le_refl _⟩, by repeat (first | exact Drawn0.refl _ | apply Drawn0.step)⟩
    case round =>
      clear H'
      try clear c1
      try clear p2
      try clear c3
      try clear c3b0
      try clear c3b1
      try clear c3b2
      obtain ⟨x5_1, rfl, HA, HK1, ⟨m1, rfl⟩⟩ := hrel
      cases gk with
      | zero => exact absurd HA.out (by simp [verditerref06_SameCases.l0])
      | succ k1 =>
        have H := HA.out
        clear HA
        simp only [verditerref06_SameCases.l0] at H
        by_cases c4 : x5_1 < (l0.length : Int)
        · rw [if_pos c4] at H
          have c4b0 : decide (x5_1 < (l0.length : Int)) = true := decide_eq_true c4
          clear c4
          by_cases c5 : 0 ≤ x5_1
          · rw [if_pos c5] at H
            have c5b0 : decide (0 ≤ x5_1) = true := decide_eq_true c5
            clear c5
            by_cases c6 : x5_1 < (l1.length : Int)
            · rw [if_pos c6] at H
              have c6b0 : decide (x5_1 < (l1.length : Int)) = true := decide_eq_true c6
              clear c6
              by_cases c7 : (!(((rd_T35 l0 x5_1).f0) == ((rd_T35 l1 x5_1).f0)) || (!(((rd_T35 l0 x5_1).f1) == ((rd_T35 l1 x5_1).f1)))) = true
              · rw [if_pos c7] at H
                have c7b0 : (!(((rd_T35 l0 x5_1).f0) == ((rd_T35 l1 x5_1).f0)) || (!(((rd_T35 l0 x5_1).f1) == ((rd_T35 l1 x5_1).f1)))) = true := c7
                clear c7
                obtain rfl := Option.some.inj H
                have p478 : 0 ≤ (x5_1 : Int) := of_decide_eq_true (by first | (with_reducible assumption) | assumption)
                have q478 : x5_1 < (l0.length : Int) := of_decide_eq_true (by first | (with_reducible assumption) | assumption)
                obtain ⟨ad478, e478, hx478_0, hx478_1⟩ := at_T35 HR0.out x5_1 p478 q478
                cases e478
                replace p478 := eq_true p478
                replace q478 := eq_true q478
                have p479 : 0 ≤ (x5_1 : Int) := of_decide_eq_true (by first | (with_reducible assumption) | assumption)
                have q479 : x5_1 < (l1.length : Int) := of_decide_eq_true (by first | (with_reducible assumption) | assumption)
                obtain ⟨ad479, e479, hx479_0, hx479_1⟩ := at_T35 HR1.out x5_1 p479 q479
                cases e479
                replace p479 := eq_true p479
                replace q479 := eq_true q479
                go_wp2
                repeat (go_quiet (fail); try go_wp2)
                go_ret
                exact ⟨by first | rfl | (simp; done) | (simp [*]; done), by repeat (first | exact Drawn0.refl _ | apply Drawn0.step)⟩
              · rw [if_neg c7] at H
                have c7b0 : (!(((rd_T35 l0 x5_1).f0) == ((rd_T35 l1 x5_1).f0)) || (!(((rd_T35 l0 x5_1).f1) == ((rd_T35 l1 x5_1).f1)))) = false := by simpa using c7
                clear c7
                have H' := Aside0.mk H
                clear H
                have p478 : 0 ≤ (x5_1 : Int) := of_decide_eq_true (by first | (with_reducible assumption) | assumption)
                have q478 : x5_1 < (l0.length : Int) := of_decide_eq_true (by first | (with_reducible assumption) | assumption)
                obtain ⟨ad478, e478, hx478_0, hx478_1⟩ := at_T35 HR0.out x5_1 p478 q478
                cases e478
                replace p478 := eq_true p478
                replace q478 := eq_true q478
                have p479 : 0 ≤ (x5_1 : Int) := of_decide_eq_true (by first | (with_reducible assumption) | assumption)
                have q479 : x5_1 < (l1.length : Int) := of_decide_eq_true (by first | (with_reducible assumption) | assumption)
                obtain ⟨ad479, e479, hx479_0, hx479_1⟩ := at_T35 HR1.out x5_1 p479 q479
                cases e479
                replace p479 := eq_true p479
                replace q479 := eq_true q479
                go_wp2
                repeat (go_quiet (fail); try go_wp2)
                go_roundg k1
                case measure => have := HK1.out; omega
                case rel => exact ⟨(wrap64 (x5_1 + 1)), (by first | rfl | (simp; done) | (simp [*]; done)), H', ⟨by have := HK1.out; omega⟩, by repeat (first | exact Drawn0.refl _ | apply Drawn0.step)⟩
            · rw [if_neg c6] at H
              exact absurd H (by simp)
          · rw [if_neg c5] at H
            exact absurd H (by simp)
        · rw [if_neg c4] at H
          have c4b0 : decide (x5_1 < (l0.length : Int)) = false := decide_eq_false c4
          clear c4
          obtain rfl := Option.some.inj H
          go_wp2
          repeat (go_quiet (fail); try go_wp2)
          go_ret
          exact ⟨by first | rfl | (simp; done) | (simp [*]; done), by repeat (first | exact Drawn0.refl _ | apply Drawn0.step)⟩
  · rw [if_neg c3] at H
    have c3b0 : ((l0.length : Int) == (l1.length : Int)) = false := beq_eq_false_iff_ne.mpr c3
    have c3b1 : ((l0.length : Int) != (l1.length : Int)) = true := bne_iff_ne.mpr c3
    have c3b2 : (l0.length == l1.length) = false := by first | simpa using c3 | (simp at c3 ⊢; omega)
    obtain rfl := Option.some.inj H
    go_enter Try.func65, Try.ntmps65
    go_wp2
    repeat (go_quiet (fail); try go_wp2)
    go_ret
    exact ⟨by first | rfl | (simp; done) | (simp [*]; done), by repeat (first | exact Drawn0.refl _ | apply Drawn0.step)⟩

end Go.Proofs.Ytdbeochifofdoaa.X
end

section
namespace Go.Proofs.Ytdbeochifofdoaa.X
open Go.RowKit Go.Proofs.YtdbeochifofdoaaW.PrintWords Go.Proofs.YtdbeochifofdoaaW.PrintLast Go.Proofs.YtdbeochifofdoaaW.PrintMore

set_option maxHeartbeats 2000000 in
set_option maxRecDepth 100000 in
theorem indexFunc124 (g : Nat) (lb : Array Value) (eg : ∀ args w, (callFunc g args).run Try.prog w = .ok (.enter g args) w) (p : S35 → Bool) (A0 : Option Addr) (c0 : Nat) (l0 : List (S35)) (w : World)
    (hr0 : Kd.C k35 w A0 l0.length l0) (hp : ∀ (W : World) (x : S35), x ∈ l0 → Below w.heap.size w W → Calls Try.prog g (#[.agg #[.int .i64 x.f0, .int .i64 x.f1]] ++ lb) W fun e w' => e = .returned (.bool (p x)) ∧ Below W.heap.size W w') :
    Calls Try.prog 124 #[.slice A0 l0.length c0, .func (.func g) #[] lb] w fun e w' => e = .returned (.int .i64 (ixf p l0 0)) ∧ Below w.heap.size w w' := by
  have HR := Aside0.mk hr0
  have HP := Aside0.mk hp
  have HM := Aside0.mk (Kd.C_max hr0)
  clear hr0 hp
  have hlen : l0.length ≤ 9223372036854775807 := HM.out
  go_enter Try.func124, Try.ntmps124
  go_wp2
  go_loopg [5, 8] l0.length (fun gg _ s8 wr => ∃ kk : Nat, kk ≤ l0.length ∧ l0.length - kk ≤ gg ∧ s8 = .int .i64 kk ∧ Aside0 (Below w.heap.size w wr) ∧ Aside0 (ixf p (l0.drop kk) kk = ixf p l0 0))
  case atStart => exact ⟨0, Nat.zero_le _, by omega, rfl, ⟨Below.refl _ w⟩, ⟨by simp⟩⟩
  case round =>
    obtain ⟨kk, hkk, hg, rfl, BW, A⟩ := hrel
    by_cases hlt : kk < l0.length
    · have hltz : (kk : Int) < (l0.length : Int) := by omega
      obtain ⟨ad, e1, hcell, hcell1⟩ := at_T35 HR.out kk (by omega) hltz
      cases e1
      have hmem : rd_T35 l0 kk ∈ l0 := by simp [rd_T35, List.getD_eq_getElem?_getD, List.getElem?_eq_getElem hlt]
      have hcall := HP.out wr (rd_T35 l0 kk) hmem BW.out
      rw [show rd_T35 l0 (kk : Int) = l0.getD kk z35 from rfl] at hcall hcell hcell1
      replace hcell := (BW.out.cell (World.block_lt_of_cell? w _ hcell)).trans hcell
      replace hcell1 := (BW.out.cell (World.block_lt_of_cell? w _ hcell1)).trans hcell1
      simp only [Int.toNat_natCast] at hcell hcell1
      clear hmem
      generalize hy : (l0.getD kk z35) = y at *
      have B : Aside0 (l0.drop kk = y :: l0.drop (kk + 1)) := ⟨by rw [← hy]; exact drop_getD _ l0 kk hlt⟩
      clear hy
      cases hq : p y with
      | true =>
        rw [hq] at hcall
        have Q := Aside0.mk hq
        clear hq
        go_wp2_with (go_at_fn g; refine hcall.mono ?_; rintro e w' ⟨rfl, hb'⟩)
        go_ret
        refine ⟨?_, BW.out.trans (hb'.mono BW.out.size)⟩
        rw [← A.out, B.out, ixf, if_pos Q.out]
        rfl
      | false =>
        rw [hq] at hcall
        have Q := Aside0.mk hq
        clear hq
        go_wp2_with (go_at_fn g; refine hcall.mono ?_; rintro e w' ⟨rfl, hb'⟩)
        go_roundg (l0.length - (kk + 1))
        case measure => omega
        case rel =>
          refine ⟨kk + 1, by omega, by omega, by go_num, ⟨BW.out.trans (hb'.mono BW.out.size)⟩, ⟨?_⟩⟩
          rw [← A.out, B.out, ixf, if_neg (by rw [Q.out]; simp)]
          rfl
    · have hltz : ¬ (kk : Int) < (l0.length : Int) := by omega
      have hkl : l0.length ≤ kk := by omega
      go_wp2
      go_ret
      refine ⟨?_, BW.out⟩
      rw [← A.out, List.drop_eq_nil_of_le hkl]
      rfl
set_option maxHeartbeats 1000000 in
theorem containsFunc114 (g : Nat) (lb : Array Value) (eg : ∀ args w, (callFunc g args).run Try.prog w = .ok (.enter g args) w) (p : S35 → Bool) (A0 : Option Addr) (c0 : Nat) (l0 : List (S35)) (w : World)
    (hr0 : Kd.C k35 w A0 l0.length l0) (hp : ∀ (W : World) (x : S35), x ∈ l0 → Below w.heap.size w W → Calls Try.prog g (#[.agg #[.int .i64 x.f0, .int .i64 x.f1]] ++ lb) W fun e w' => e = .returned (.bool (p x)) ∧ Below W.heap.size W w') :
    Calls Try.prog 114 #[.slice A0 l0.length c0, .func (.func g) #[] lb] w fun e w' => e = .returned (.bool (l0.any p)) ∧ Below w.heap.size w w' := by
  rw [← ixf_any p l0 0 (by omega)]
  have HR := Aside0.mk hr0
  have HP := Aside0.mk hp
  clear hr0 hp
  go_enter Try.func114, Try.ntmps114
  go_wp2_with (go_at_call 124; refine (indexFunc124 g lb eg p A0 c0 l0 _ HR.out HP.out).mono ?_; rintro e w' ⟨rfl, hb'⟩)
  go_ret
  exact ⟨rfl, hb'⟩
end Go.Proofs.Ytdbeochifofdoaa.X
end

section
/-! weigh.cased. -/
namespace Go.Proofs.Ytdbeochifofdoaa.X
open Go.RowKit Go.Proofs.YtdbeochifofdoaaW.PrintWords Go.Proofs.YtdbeochifofdoaaW.PrintLast Go.Proofs.YtdbeochifofdoaaW.PrintMore
set_option linter.unusedVariables false
set_option linter.unusedSimpArgs false

/-- The error of lots, a plan and cases. -/
def cErr (lots : Int) (l : List S53) (cs : List S35) : Int :=
  if pErr lots l = 0 then (if cs.any (fun x => !(decide (0 ≤ x.f0) && decide (x.f0 ≤ lots - 1))) = true then 4 else if cs.any (fun x => x.f1 != 1 && x.f1 != -1) = true then 1 else 0) else pErr lots l
def weigh_cased.f (a0 : Int) (l1 : List S53) (l2 : List S35) : Option Int := some (cErr a0 l1 l2)

theorem eg115 (args : Array Value) (w : World) : (callFunc 115 args).run Try.prog w = .ok (.enter 115 args) w := enters_of Try.func115 (by kernel_rfl) rfl args w
theorem eg116 (args : Array Value) (w : World) : (callFunc 116 args).run Try.prog w = .ok (.enter 116 args) w := enters_of Try.func116 (by kernel_rfl) rfl args w

set_option maxHeartbeats 4000000 in
set_option maxRecDepth 100000 in
theorem weigh_cased.calls (a0 : Int) (A1 : Option Addr) (c1 : Nat) (l1 : List S53) (A2 : Option Addr) (c2 : Nat) (l2 : List S35) (r : Int) (w : World) (hr1 : Kd.C k53 w A1 l1.length l1) (hc1 : l1.length ≤ c1) (hr2 : Kd.C k35 w A2 l2.length l2) (hc2 : l2.length ≤ c2) (h : weigh_cased.f a0 l1 l2 = some r) :
    Calls Try.prog 95 #[.int .i64 a0, .slice A1 l1.length c1, .slice A2 l2.length c2] w fun e w' => e = .returned (.int .i64 r) ∧ Below w.heap.size w w' := by
  obtain rfl := Option.some.inj h
  have HR1 := Aside0.mk hr1
  have HR2 := Aside0.mk hr2
  have HC1 := Aside0.mk hc1
  clear h hr1 hr2 hc1 hc2
  by_cases hp : pErr a0 l1 = 0
  rotate_left
  · have e1 : cErr a0 l1 l2 = pErr a0 l1 := by unfold cErr; rw [if_neg hp]
    rw [e1]
    have hf : weigh_Validate.f a0 l1 = some (pErr a0 l1) := rfl
    clear e1
    generalize pErr a0 l1 = p at *
    have HF := Aside0.mk hf
    have q1 : (p != 0) = true := by simpa using hp
    clear hf hp
    go_enter Try.func95, Try.ntmps95
    go_wp2_with (go_at_call 58; refine (weigh_Validate.calls a0 A1 c1 l1 p _ (Kd.C_alloc HR1.out _) HC1.out HF.out).mono ?_; rintro e w' ⟨rfl, hb⟩)
    go_ret
    exact ⟨rfl, (below_alloc (Below.refl _ _) _).trans (hb.mono (by simp))⟩
  have OK := Aside0.mk (pErr_ok hp)
  have hf : weigh_Validate.f a0 l1 = some 0 := by rw [weigh_Validate.f, hp]
  have e1 : cErr a0 l1 l2 = if l2.any (fun x => !(decide (0 ≤ x.f0) && decide (x.f0 ≤ a0 - 1))) = true then 4 else if l2.any (fun x => x.f1 != 1 && x.f1 != -1) = true then 1 else 0 := by unfold cErr; rw [if_pos hp]
  rw [e1]
  obtain ⟨q, hq⟩ : ∃ q : Int, q = if l2.any (fun x => !(decide (0 ≤ x.f0) && decide (x.f0 ≤ a0 - 1))) = true then 4 else if l2.any (fun x => x.f1 != 1 && x.f1 != -1) = true then 1 else 0 := ⟨_, rfl⟩
  rw [← hq]
  have HQ := Aside0.mk hq
  have HF := Aside0.mk hf
  clear e1 hf hp hq
  have hlo : 1 ≤ a0 := OK.out.lo
  have hhi : a0 ≤ 13 := OK.out.hi
  go_enter Try.func95, Try.ntmps95
  go_wp2_with fail
  refine (weigh_Validate.calls a0 A1 c1 l1 0 _ (Kd.C_alloc HR1.out _) HC1.out HF.out).mono ?_; rintro e w1 ⟨rfl, hb⟩
  have hbx := hb.cell (p := ⟨w.heap.size, 0, none⟩) (by simp)
  have hx : w1.cell? ⟨w.heap.size, 0, none⟩ = some (.int .i64 a0) := hbx.trans (blk_cell (blk_new w _) 0)
  have hsz : w.heap.size < w1.heap.size := by have := hb.size; simp at this; omega
  have HB := Aside0.mk ((below_alloc (Below.refl _ w) (.cells #[.int .i64 a0] 3)).trans (hb.mono (by simp)))
  clear hb hbx
  go_wp2_with fail
  refine (containsFunc114 115 #[.pointer (some ⟨w.heap.size, 0, none⟩)] eg115 (fun x => !(decide (0 ≤ x.f0) && decide (x.f0 ≤ a0 - 1))) A2 c2 l2 _ ?hr ?hp).mono ?_
  case hr => exact Kd.C_below HR2.out HB.out
  case hp =>
    intro W x _ hbW
    exact lit115 x a0 (by omega) (by omega) w.heap.size W (by have := hbW.size; omega) ((hbW.cell (p := ⟨w.heap.size, 0, none⟩) hsz).trans hx)
  rintro e w2 ⟨rfl, hb2⟩
  have HB2 := Aside0.mk (HB.out.trans (hb2.mono HB.out.size))
  clear hx hsz HB hb2
  cases h1 : l2.any (fun x => !(decide (0 ≤ x.f0) && decide (x.f0 ≤ a0 - 1))) with
  | true =>
    have H1 := Aside0.mk h1
    clear h1
    go_wp2
    go_ret
    exact ⟨by rw [HQ.out, H1.out]; rfl, HB2.out⟩
  | false =>
    have H1 := Aside0.mk h1
    clear h1
    go_wp2_with fail
    refine (containsFunc114 116 #[] eg116 (fun x => x.f1 != 1 && x.f1 != -1) A2 c2 l2 _ ?hr ?hp).mono ?_
    case hr => exact Kd.C_below HR2.out HB2.out
    case hp =>
      intro W x _ hbW
      exact lit116 x W
    rintro e w3 ⟨rfl, hb3⟩
    have HB3 := Aside0.mk (HB2.out.trans (hb3.mono HB2.out.size))
    clear HB2 hb3
    cases h2 : l2.any (fun x => x.f1 != 1 && x.f1 != -1) with
    | true =>
      have H2 := Aside0.mk h2
      clear h2
      go_wp2
      go_ret
      exact ⟨by rw [HQ.out, H1.out, H2.out]; rfl, HB3.out⟩
    | false =>
      have H2 := Aside0.mk h2
      clear h2
      go_wp2
      go_ret
      exact ⟨by rw [HQ.out, H1.out, H2.out]; rfl, HB3.out⟩
end Go.Proofs.Ytdbeochifofdoaa.X
end

section
/-! weigh.Answers. -/
namespace Go.Proofs.Ytdbeochifofdoaa.X
open Go.RowKit Go.Proofs.YtdbeochifofdoaaW.PrintWords Go.Proofs.YtdbeochifofdoaaW.PrintLast Go.Proofs.YtdbeochifofdoaaW.PrintMore
set_option linter.unusedVariables false
set_option linter.unusedSimpArgs false

section
variable {P : Program} {ops : Array Oper} {Q : Exit → Act → World → Prop}
/-- A load, or another operation that gives a value, in a region of open order. -/
theorem val_ {oi : Oper} {N : Option Tmp} {a : Act} {w : World} {K : Act → World → Prop} {v : Value} (hw : Region.wanted oi (yielded ops a.tmps) = true) (hN : oi.dst = N) (hrun : (execOp a.eval oi).run P w = .ok (.value v) w)
    (h : K (a.put N v) w) : if Region.wanted oi (yielded ops a.tmps) = true then Oper.wp P oi a w K Q else K (a.put N undef) w := by
  rw [if_pos hw]
  unfold Oper.wp
  rw [hrun]
  subst hN
  exact h
end
/-- A mark times a way. -/
def tim3 (m : S70) (k : Int) : S70 := ⟨wrap64 (m.f0 * k), wrap64 (m.f1 * k), wrap64 (m.f2 * k)⟩
def weigh_Answers.f (a0 : Int) (l1 : List S53) (c0 c1 : Int) : Option (List Int × Int) :=
  if cErr a0 l1 [⟨c0, c1⟩] = 0 then some (cut3 l1.length (tim3 ((marksL a0 l1).getD c0.toNat z70) c1), 0) else some ([], cErr a0 l1 [⟨c0, c1⟩])
/-- A case in a block of its own, as a row of one. -/
theorem C35_one {W : World} {g : Nat} {a b : Int} (h : W.heap[g]? = some (.cells #[.int .i64 a, .int .i64 b] 35 (0, 0))) : Kd.C k35 W (some ⟨g, 0, none⟩) 1 [(⟨a, b⟩ : S35)] := by
  refine ⟨rfl, by omega, fun _ => ⟨_, rfl, fun j p hj => ?_⟩⟩
  match j, hj with
  | 0, hj =>
    obtain rfl := Option.some.inj hj
    refine ⟨[.int .i64 a, .int .i64 b], rfl, ⟨[.int .i64 a], [.int .i64 b], rfl, rfl, rfl⟩, fun i u hu => ?_⟩
    rw [add_plain, blk_cell h]
    simpa using hu
  | j + 1, hj => cases hj
theorem cErr_at {lots : Int} {l : List S53} {c0 c1 : Int} (h : cErr lots l [⟨c0, c1⟩] = 0) : pErr lots l = 0 ∧ 0 ≤ c0 ∧ c0 < lots := by
  unfold cErr at h
  by_cases hp : pErr lots l = 0
  · rw [if_pos hp] at h
    refine ⟨hp, ?_⟩
    by_cases h1 : ([(⟨c0, c1⟩ : S35)].any (fun x => !(decide (0 ≤ x.f0) && decide (x.f0 ≤ lots - 1)))) = true
    · rw [if_pos h1] at h; cases h
    · simp at h1
      omega
  · rw [if_neg hp] at h; exact absurd h hp
theorem marksL_len' (lots : Int) (l : List S53) : (marksL lots l).length = lots.toNat := by simp [marksL, rowsOf]
def weigh_Answers.T : Bool × List (List Nat × List Nat) := (true, [([], []), ([], []), ([0, 1], [0, 1]), ([], []), ([3], [3]), ([2, 4], [2, 4]), ([5], [5]), ([], []), ([7], [7]), ([6, 8, 2], [6, 8]), ([], []), ([10, 9, 9, 0, 1, 2, 3, 4, 5, 6, 7, 8, 9, 10], [9, 10])])
def weigh_Answers.B : List Nat := [0, 0, 3, 0, 8, 31, 63, 0, 128, 511, 0, 2047]
theorem weigh_Answers.tab : rtab .any (opsOf Try.f57 4) = weigh_Answers.T := by kernel_rfl
theorem weigh_Answers.bits : waitsOk weigh_Answers.T.2 weigh_Answers.B = true := by kernel_rfl
set_option maxHeartbeats 4000000 in
set_option maxRecDepth 100000 in
theorem weigh_Answers.calls (a0 : Int) (A1 : Option Addr) (c1 : Nat) (l1 : List S53) (b0 b1 : Int) (r1 : List Int) (r2 : Int) (w : World) (hr1 : Kd.C k53 w A1 l1.length l1) (hc1 : l1.length ≤ c1) (h : weigh_Answers.f a0 l1 b0 b1 = some (r1, r2)) :
    Calls Try.prog 57 #[.int .i64 a0, .slice A1 l1.length c1, .agg #[.int .i64 b0, .int .i64 b1]] w fun e w' => ∃ v0_ : Value, e = .returned (.tuple #[v0_, .int .i64 r2]) ∧ Kd.R (Kd.int .i64) 3 w' w.heap.size (fun _ => True) v0_ r1 ∧ Below w.heap.size w w' := by
  have HR := Aside0.mk hr1
  have HC := Aside0.mk hc1
  unfold weigh_Answers.f at h
  obtain ⟨q, hq⟩ : ∃ q, q = cErr a0 l1 [⟨b0, b1⟩] := ⟨_, rfl⟩
  have HF := Aside0.mk (show weigh_cased.f a0 l1 [⟨b0, b1⟩] = some q by rw [hq]; rfl)
  have HQ := Aside0.mk hq
  rw [← hq] at h
  clear hq hr1 hc1
  go_enter Try.func57, Try.ntmps57
  go_wp2_with fail
  have hcC := C35_one (a := b0) (b := b1) (blk_new (w.alloc (.cells #[.int .i64 b0, .int .i64 b1] 35)) (.cells #[.int .i64 b0, .int .i64 b1] 35))
  rw [show (w.alloc (.cells #[.int .i64 b0, .int .i64 b1] 35)).heap.size = w.heap.size + 1 from by simp] at hcC
  refine (weigh_cased.calls a0 A1 c1 l1 _ 1 [⟨b0, b1⟩] q _ (Kd.C_alloc (Kd.C_alloc HR.out _) _) HC.out hcC (by simp) HF.out).mono ?_
  rintro e w1 ⟨rfl, hb⟩
  have HB := Aside0.mk ((below_alloc (below_alloc (Below.refl _ w) (.cells #[.int .i64 b0, .int .i64 b1] 35)) (.cells #[.int .i64 b0, .int .i64 b1] 35)).trans (hb.mono (by simp; omega)))
  have BK := Aside0.mk (blk_below (blk_alloc (blk_new w (.cells #[.int .i64 b0, .int .i64 b1] 35)) (.cells #[.int .i64 b0, .int .i64 b1] 35)) hb)
  clear hb hcC
  by_cases hz : q = 0
  rotate_left
  · rw [if_neg hz] at h
    simp only [Option.some.injEq, Prod.mk.injEq] at h
    obtain ⟨rfl, rfl⟩ := h
    have q1 : (q != 0) = true := by simpa using hz
    go_wp2
    go_ret2
    exact ⟨_, rfl, Kd.R_nil _ _ _ _ _, HB.out⟩
  subst hz
  rw [if_pos rfl] at h
  simp only [Option.some.injEq, Prod.mk.injEq] at h
  obtain ⟨h1, rfl⟩ := h
  obtain ⟨hp, hlo, hhi⟩ := cErr_at HQ.out.symm
  have few := (pErr_ok hp).few
  have HMF := Aside0.mk (show weigh_marks.f a0 l1 = some (marksL a0 l1) by unfold weigh_marks.f; rw [if_pos hp])
  obtain ⟨n0, rfl⟩ := Int.eq_ofNat_of_zero_le hlo
  have hlen : n0 < (marksL a0 l1).length := by rw [marksL_len']; omega
  rw [show ((n0 : Int)).toNat = n0 from rfl] at h1
  generalize marksL a0 l1 = L at *
  have H1 := Aside0.mk h1
  clear h1 hp
  go_wp2
  have HBd := Aside0.mk (below_drew1 HB.out)
  have BKd := Aside0.mk (blk_drew BK.out)
  refine start_ (n := 12) (S := fun w' => w'.cell? ⟨w.heap.size, 0, none⟩ = some (.int .i64 (n0 : Int)) ∧ w'.cell? ⟨w.heap.size, 1, none⟩ = some (.int .i64 b1)) (ds := []) #[false, false, false, false, false, false, false, false, false, false, false, false] (by kernel_rfl) rfl rfl ⟨(blk_cell BKd.out 0).trans rfl, (blk_cell BKd.out 1).trans rfl⟩ (fun hHeld => ?_)
  refine with_tabW weigh_Answers.tab weigh_Answers.bits (fun HT_ HW_ => ?_)
  clear HB BK
  generalize w1.drew = w2 at HBd BKd hHeld ⊢
  refine pure_ (i := 0) (N := some 18) (v := ?_) (a' := ?_) #[true, false, false, false, false, false, false, false, false, false, false, false] rfl rfl (any_of HT_.out (by kernel_rfl)) (fun _ _ _ h => h) (Or.inl ⟨by rfl, ?_⟩) ?_ ?_
  rotate_left
  · intro w'
    go_simp
    with_reducible rfl
  rotate_left
  · simp only [Act.put, List.setIfInBounds_toArray, List.set_cons_zero, List.set_cons_succ, i64_w, i32_w]
    rfl
  refine pure_ (i := 1) (N := some 19) (v := ?_) (a' := ?_) #[true, true, false, false, false, false, false, false, false, false, false, false] rfl rfl (any_of HT_.out (by kernel_rfl)) (fun _ _ _ h => h) (Or.inl ⟨by rfl, ?_⟩) ?_ ?_
  rotate_left
  · intro w'
    go_simp
    with_reducible rfl
  rotate_left
  · simp only [Act.put, List.setIfInBounds_toArray, List.set_cons_zero, List.set_cons_succ, i64_w, i32_w]
    rfl
  refine pure_ (i := 3) (N := some 21) (v := ?_) (a' := ?_) #[true, true, false, true, false, false, false, false, false, false, false, false] rfl rfl (any_of HT_.out (by kernel_rfl)) (fun _ _ _ h => h) (Or.inl ⟨by rfl, ?_⟩) ?_ ?_
  rotate_left
  · intro w'
    go_simp
    with_reducible rfl
  rotate_left
  · simp only [Act.put, List.setIfInBounds_toArray, List.set_cons_zero, List.set_cons_succ, i64_w, i32_w]
    rfl
  refine pure_ (i := 7) (N := some 25) (v := ?_) (a' := ?_) #[true, true, false, true, false, false, false, true, false, false, false, false] rfl rfl (any_of HT_.out (by kernel_rfl)) (fun _ _ _ h => h) (Or.inl ⟨by rfl, ?_⟩) ?_ ?_
  rotate_left
  · intro w'
    go_simp
    with_reducible rfl
  rotate_left
  · simp only [Act.put, List.setIfInBounds_toArray, List.set_cons_zero, List.set_cons_succ, i64_w, i32_w]
    rfl
  refine take_ (i := 4) (N := some 22) (v := ?_) (a' := ?_) #[true, true, false, true, true, false, false, true, false, false, false, false] rfl rfl (take_ofW HT_.out HW_.out (by kernel_rfl)) (fun _ _ _ h => h) (Or.inl ⟨by rfl, ?_⟩) hHeld ?_ ?_
  rotate_left
  · rintro w' ⟨s0, s1⟩
    go_simp
    with_reducible rfl
  rotate_left
  · simp only [Act.put, List.setIfInBounds_toArray, List.set_cons_zero, List.set_cons_succ, i64_w, i32_w]
    rfl
  refine take_ (i := 8) (N := some 26) (v := ?_) (a' := ?_) #[true, true, false, true, true, false, false, true, true, false, false, false] rfl rfl (take_ofW HT_.out HW_.out (by kernel_rfl)) (fun _ _ _ h => h) (Or.inl ⟨by rfl, ?_⟩) hHeld ?_ ?_
  rotate_left
  · rintro w' ⟨s0, s1⟩
    go_simp
    with_reducible rfl
  rotate_left
  · simp only [Act.put, List.setIfInBounds_toArray, List.set_cons_zero, List.set_cons_succ, i64_w, i32_w]
    rfl
  have ltz : ((n0 : Int) < (L.length : Int)) := by omega
  have gez : (0 : Int) ≤ (n0 : Int) := by omega
  obtain ⟨m, hm⟩ : ∃ m, L.getD n0 z70 = m := ⟨_, rfl⟩
  obtain ⟨t0, ht0⟩ : ∃ z, z = wrap64 (m.f0 * b1) := ⟨_, rfl⟩
  obtain ⟨t1, ht1⟩ : ∃ z, z = wrap64 (m.f1 * b1) := ⟨_, rfl⟩
  obtain ⟨t2, ht2⟩ : ∃ z, z = wrap64 (m.f2 * b1) := ⟨_, rfl⟩
  have HTM := Aside0.mk (show weigh_mark_times.f m.f0 m.f1 m.f2 b1 = some (t0, t1, t2) by rw [ht0, ht1, ht2]; rfl)
  have HR1 := Aside0.mk (show r1 = cut3 l1.length ⟨t0, t1, t2⟩ by rw [← H1.out, hm, ht0, ht1, ht2]; rfl)
  have HC1 := HC
  clear HC H1 ht0 ht1 ht2
  have HB := HBd
  clear HBd
  refine join_ (σ := Addr × Nat × Nat) 1 (l' := #[true, true, true, true, true, true, true, true, true, true, true, false]) (fun s => [(20, .slice (some s.1) L.length s.2.1), (23, .pointer (some (s.1.add (n0 * 3)))), (24, .agg #[.int .i64 m.f0, .int .i64 m.f1, .int .i64 m.f2]), (27, .agg #[.int .i64 t0, .int .i64 t1, .int .i64 t2]), (9, .pointer (some ⟨s.2.2, 0, none⟩))])
    (fun s W => (W.cell? ⟨w.heap.size, 0, none⟩ = some (.int .i64 (n0 : Int)) ∧ W.cell? ⟨w.heap.size, 1, none⟩ = some (.int .i64 b1)) ∧ Kd.C k70 W (some s.1) L.length L ∧ W.heap[s.2.2]? = some (.cells #[.int .i64 0, .int .i64 0, .int .i64 0] 70 (0, 0)) ∧ w.heap.size < s.2.2 ∧ s.1.block ≠ s.2.2 ∧ Below w.heap.size w W) ?_ ?_
  rotate_left
  · intro hCont3
    refine join_ (σ := Addr × Nat × Nat) 2 (l' := #[true, true, true, true, true, true, true, true, true, false, true, false]) (fun s => [(20, .slice (some s.1) L.length s.2.1), (23, .pointer (some (s.1.add (n0 * 3)))), (24, .agg #[.int .i64 m.f0, .int .i64 m.f1, .int .i64 m.f2]), (9, .pointer (some ⟨s.2.2, 0, none⟩))])
      (fun s W => (W.cell? ⟨w.heap.size, 0, none⟩ = some (.int .i64 (n0 : Int)) ∧ W.cell? ⟨w.heap.size, 1, none⟩ = some (.int .i64 b1)) ∧ Kd.C k70 W (some s.1) L.length L ∧ W.heap[s.2.2]? = some (.cells #[.int .i64 0, .int .i64 0, .int .i64 0] 70 (0, 0)) ∧ w.heap.size < s.2.2 ∧ s.1.block ≠ s.2.2 ∧ Below w.heap.size w W) ?_ ?_
    rotate_left
    · intro hCont2
      refine join_ (σ := Addr × Nat × Nat) 3 (l' := #[true, true, true, true, true, true, false, true, true, false, true, false]) (fun s => [(20, .slice (some s.1) L.length s.2.1), (23, .pointer (some (s.1.add (n0 * 3)))), (9, .pointer (some ⟨s.2.2, 0, none⟩))])
        (fun s W => (W.cell? ⟨w.heap.size, 0, none⟩ = some (.int .i64 (n0 : Int)) ∧ W.cell? ⟨w.heap.size, 1, none⟩ = some (.int .i64 b1)) ∧ Kd.C k70 W (some s.1) L.length L ∧ W.heap[s.2.2]? = some (.cells #[.int .i64 0, .int .i64 0, .int .i64 0] 70 (0, 0)) ∧ w.heap.size < s.2.2 ∧ s.1.block ≠ s.2.2 ∧ Below w.heap.size w W) ?_ ?_
      rotate_left
      · intro hCont1
        refine two_ (i := 2) (j := 10) (Ni := some 20) (Nj := some 9) #[true, true, true, true, true, false, false, true, true, false, false, false] #[true, true, false, true, true, false, false, true, true, false, true, false] rfl rfl rfl rfl (two_of HT_.out (by kernel_rfl)) (by decide) (by decide) (fun K hK => ?_) (fun K hK => ?_)
        · refine goes_ Try.func90 (by kernel_rfl) rfl #[.int .i64 a0, .slice A1 l1.length c1] (by rfl) rfl rfl (by (try simp only [List.map_toArray, List.map_cons, List.map_nil]); first | done | rfl) ?_
          refine (weigh_marks.calls a0 A1 c1 l1 L _ (Kd.C_below HR.out HB.out) HC1.out HMF.out).mono ?_
          rintro e W ⟨v, rfl, hO, hb⟩
          refine ⟨_, rfl, ?_⟩
          have hS := And.intro ((hb.cell (World.block_lt_of_cell? _ _ hHeld.1)).trans hHeld.1) ((hb.cell (World.block_lt_of_cell? _ _ hHeld.2)).trans hHeld.2)
          obtain ⟨A, c, rfl⟩ := Kd.R_slice hO
          obtain ⟨_, hLc, hC⟩ := Kd.R_reads' hO
          obtain ⟨ad, hA, _⟩ := hC.2.2 (by omega)
          subst hA
          have hltb := Kd.R_lt hO ad.block rfl
          have hgeb := Kd.R_base hO ad.block rfl
          have hlez : ((n0 : Int) ≤ (c : Int)) := by omega
          have HB1 := Aside0.mk (HB.out.trans (hb.mono HB.out.size))
          clear HB
          have HB := HB1
          clear HB1
          have HC := Aside0.mk hC
          clear hC hO hb
          refine hK.out _ _ hS (fun hHeld => ?_)
          clear hK K hS
          refine norm_ (a' := ?_) ?_ ?_
          rotate_left
          · show Act.put _ (some 20) _ = _
            simp only [Act.put, List.setIfInBounds_toArray, List.set_cons_zero, List.set_cons_succ, i64_w, i32_w]
            rfl
          refine pure_ (i := 5) (N := some 23) (v := ?_) (a' := ?_) #[true, true, true, true, true, true, false, true, true, false, false, false] rfl rfl (any_of HT_.out (by kernel_rfl)) (fun _ _ _ h => h) (Or.inl ⟨by rfl, ?_⟩) ?_ ?_
          rotate_left
          · intro w'
            go_simp
            with_reducible rfl
          rotate_left
          · simp only [Act.put, List.setIfInBounds_toArray, List.set_cons_zero, List.set_cons_succ, i64_w, i32_w]
            rfl
          refine two_ (i := 6) (j := 10) (Ni := some 24) (Nj := some 9) #[true, true, true, true, true, true, true, true, true, false, false, false] #[true, true, true, true, true, true, false, true, true, false, true, false] rfl rfl rfl rfl (two_of HT_.out (by kernel_rfl)) (by decide) (by decide) (fun K hK => ?_) (fun K hK => ?_)
          · obtain ⟨ad', e1, hx0, hx1, hx2⟩ := at_T70 HC.out n0 (by omega) ltz
            cases e1
            simp only [Int.toNat_natCast] at hx0 hx1 hx2
            rw [show rd_T70 L (n0 : Int) = L.getD n0 z70 from rfl, hm] at hx0 hx1 hx2
            refine val_ (v := .agg #[.int .i64 m.f0, .int .i64 m.f1, .int .i64 m.f2]) (by rfl) rfl ?_ ?_
            · first | (go_simp; done) | (go_simp; rfl)
            have hS := hHeld
            clear hx0 hx1 hx2
            refine hK.out _ _ hS (fun hHeld => ?_)
            clear hK K hS
            refine norm_ (a' := ?_) ?_ ?_
            rotate_left
            · show Act.put _ (some 24) _ = _
              simp only [Act.put, List.setIfInBounds_toArray, List.set_cons_zero, List.set_cons_succ, i64_w, i32_w]
              rfl
            refine two_ (i := 9) (j := 10) (Ni := some 27) (Nj := some 9) #[true, true, true, true, true, true, true, true, true, true, false, false] #[true, true, true, true, true, true, true, true, true, false, true, false] rfl rfl rfl rfl (two_of HT_.out (by kernel_rfl)) (by decide) (by decide) (fun K hK => ?_) (fun K hK => ?_)
            · refine goes_ Try.func94 (by kernel_rfl) rfl #[.agg #[.int .i64 m.f0, .int .i64 m.f1, .int .i64 m.f2], .int .i64 b1] (by rfl) rfl rfl (by (try simp only [List.map_toArray, List.map_cons, List.map_nil]); first | done | rfl) ?_
              refine (weigh_mark_times.calls m.f0 m.f1 m.f2 b1 t0 t1 t2 _ HTM.out).mono ?_
              rintro e W ⟨rfl, hb⟩
              refine ⟨_, rfl, ?_⟩
              have hS := And.intro ((hb.cell (World.block_lt_of_cell? _ _ hHeld.1)).trans hHeld.1) ((hb.cell (World.block_lt_of_cell? _ _ hHeld.2)).trans hHeld.2)
              have HB1 := Aside0.mk (HB.out.trans (hb.mono HB.out.size))
              have HC1x := Aside0.mk (Kd.C_below HC.out hb)
              clear HB HC
              have HB := HB1
              have HC := HC1x
              clear HB1 HC1x
              have hltb1 : ad.block < W.heap.size := Nat.lt_of_lt_of_le hltb hb.size
              clear hltb
              have hltb := hltb1
              clear hb
              refine hK.out _ _ hS (fun hHeld => ?_)
              clear hK K hS
              refine norm_ (a' := ?_) ?_ ?_
              rotate_left
              · show Act.put _ (some 27) _ = _
                simp only [Act.put, List.setIfInBounds_toArray, List.set_cons_zero, List.set_cons_succ, i64_w, i32_w]
                rfl
              refine one_ (i := 10) (N := some 9) #[true, true, true, true, true, true, true, true, true, true, true, false] rfl rfl (one_of HT_.out (by kernel_rfl)) (by decide) (fun K hK => ?_)
              refine box_step ?hg (N := 9) ?hd (cs := #[.int .i64 0, .int .i64 0, .int .i64 0]) (t := 70) ?hr ?_; (case hd => rfl); (case hg => rfl); (case hr => first | (go_simp; done) | (go_simp; rfl))
              intro g hg W hbox hb
              have hS := And.intro ((hb.cell (World.block_lt_of_cell? _ _ hHeld.1)).trans hHeld.1) ((hb.cell (World.block_lt_of_cell? _ _ hHeld.2)).trans hHeld.2)
              have hgt : w.heap.size < g := by have := World.block_lt_of_cell? _ _ hHeld.1; dsimp only at this; omega
              have HB1 := Aside0.mk (HB.out.trans (hb.mono HB.out.size))
              clear HB
              have HB := HB1
              clear HB1
              have BKg := Aside0.mk hbox
              have HC1 := Aside0.mk (Kd.C_below HC.out hb)
              clear HC
              have HC := HC1
              clear HC1
              have NE : ad.block ≠ g := by omega
              clear hbox hb
              refine hK.out _ _ hS (fun hHeld => ?_)
              clear hK K hS
              refine norm_ (a' := ?_) ?_ ?_
              rotate_left
              · show Act.put _ (some 9) _ = _
                simp only [Act.put, List.setIfInBounds_toArray, List.set_cons_zero, List.set_cons_succ, i64_w, i32_w]
                rfl
              exact norm_ (by simp only [putAll, Act.put, List.setIfInBounds_toArray, List.set_cons_zero, List.set_cons_succ]) (hCont3 (ad, c, g) _ ⟨hHeld, HC.out, BKg.out, hgt, NE, HB.out⟩)
            · refine box_step ?hg (N := 9) ?hd (cs := #[.int .i64 0, .int .i64 0, .int .i64 0]) (t := 70) ?hr ?_; (case hd => rfl); (case hg => rfl); (case hr => first | (go_simp; done) | (go_simp; rfl))
              intro g hg W hbox hb
              have hS := And.intro ((hb.cell (World.block_lt_of_cell? _ _ hHeld.1)).trans hHeld.1) ((hb.cell (World.block_lt_of_cell? _ _ hHeld.2)).trans hHeld.2)
              have hgt : w.heap.size < g := by have := World.block_lt_of_cell? _ _ hHeld.1; dsimp only at this; omega
              have HB1 := Aside0.mk (HB.out.trans (hb.mono HB.out.size))
              clear HB
              have HB := HB1
              clear HB1
              have BKg := Aside0.mk hbox
              have HC1 := Aside0.mk (Kd.C_below HC.out hb)
              clear HC
              have HC := HC1
              clear HC1
              have NE : ad.block ≠ g := by omega
              clear hbox hb
              refine hK.out _ _ hS (fun hHeld => ?_)
              clear hK K hS
              refine norm_ (a' := ?_) ?_ ?_
              rotate_left
              · show Act.put _ (some 9) _ = _
                simp only [Act.put, List.setIfInBounds_toArray, List.set_cons_zero, List.set_cons_succ, i64_w, i32_w]
                rfl
              exact norm_ (by simp only [putAll, Act.put, List.setIfInBounds_toArray, List.set_cons_zero, List.set_cons_succ]) (hCont2 (ad, c, g) _ ⟨hHeld, HC.out, BKg.out, hgt, NE, HB.out⟩)
          · refine box_step ?hg (N := 9) ?hd (cs := #[.int .i64 0, .int .i64 0, .int .i64 0]) (t := 70) ?hr ?_; (case hd => rfl); (case hg => rfl); (case hr => first | (go_simp; done) | (go_simp; rfl))
            intro g hg W hbox hb
            have hS := And.intro ((hb.cell (World.block_lt_of_cell? _ _ hHeld.1)).trans hHeld.1) ((hb.cell (World.block_lt_of_cell? _ _ hHeld.2)).trans hHeld.2)
            have hgt : w.heap.size < g := by have := World.block_lt_of_cell? _ _ hHeld.1; dsimp only at this; omega
            have HB1 := Aside0.mk (HB.out.trans (hb.mono HB.out.size))
            clear HB
            have HB := HB1
            clear HB1
            have BKg := Aside0.mk hbox
            have HC1 := Aside0.mk (Kd.C_below HC.out hb)
            clear HC
            have HC := HC1
            clear HC1
            have NE : ad.block ≠ g := by omega
            clear hbox hb
            refine hK.out _ _ hS (fun hHeld => ?_)
            clear hK K hS
            refine norm_ (a' := ?_) ?_ ?_
            rotate_left
            · show Act.put _ (some 9) _ = _
              simp only [Act.put, List.setIfInBounds_toArray, List.set_cons_zero, List.set_cons_succ, i64_w, i32_w]
              rfl
            exact norm_ (by simp only [putAll, Act.put, List.setIfInBounds_toArray, List.set_cons_zero, List.set_cons_succ]) (hCont1 (ad, c, g) _ ⟨hHeld, HC.out, BKg.out, hgt, NE, HB.out⟩)
        · refine box_step ?hg (N := 9) ?hd (cs := #[.int .i64 0, .int .i64 0, .int .i64 0]) (t := 70) ?hr ?_; (case hd => rfl); (case hg => rfl); (case hr => first | (go_simp; done) | (go_simp; rfl))
          intro g hg W hbox hb
          have hS := And.intro ((hb.cell (World.block_lt_of_cell? _ _ hHeld.1)).trans hHeld.1) ((hb.cell (World.block_lt_of_cell? _ _ hHeld.2)).trans hHeld.2)
          have hgt : w.heap.size < g := by have := World.block_lt_of_cell? _ _ hHeld.1; dsimp only at this; omega
          have HB1 := Aside0.mk (HB.out.trans (hb.mono HB.out.size))
          clear HB
          have HB := HB1
          clear HB1
          have BKg := Aside0.mk hbox
          clear hbox hb
          refine hK.out _ _ hS (fun hHeld => ?_)
          clear hK K hS
          refine norm_ (a' := ?_) ?_ ?_
          rotate_left
          · show Act.put _ (some 9) _ = _
            simp only [Act.put, List.setIfInBounds_toArray, List.set_cons_zero, List.set_cons_succ, i64_w, i32_w]
            rfl
          refine one_ (i := 2) (N := some 20) #[true, true, true, true, true, false, false, true, true, false, true, false] rfl rfl (one_of HT_.out (by kernel_rfl)) (by decide) (fun K hK => ?_)
          refine goes_ Try.func90 (by kernel_rfl) rfl #[.int .i64 a0, .slice A1 l1.length c1] (by rfl) rfl rfl (by (try simp only [List.map_toArray, List.map_cons, List.map_nil]); first | done | rfl) ?_
          refine (weigh_marks.calls a0 A1 c1 l1 L _ (Kd.C_below HR.out HB.out) HC1.out HMF.out).mono ?_
          rintro e W ⟨v, rfl, hO, hb⟩
          refine ⟨_, rfl, ?_⟩
          have hS := And.intro ((hb.cell (World.block_lt_of_cell? _ _ hHeld.1)).trans hHeld.1) ((hb.cell (World.block_lt_of_cell? _ _ hHeld.2)).trans hHeld.2)
          obtain ⟨A, c, rfl⟩ := Kd.R_slice hO
          obtain ⟨_, hLc, hC⟩ := Kd.R_reads' hO
          obtain ⟨ad, hA, _⟩ := hC.2.2 (by omega)
          subst hA
          have hltb := Kd.R_lt hO ad.block rfl
          have hgeb := Kd.R_base hO ad.block rfl
          have hlez : ((n0 : Int) ≤ (c : Int)) := by omega
          have HB1 := Aside0.mk (HB.out.trans (hb.mono HB.out.size))
          clear HB
          have HB := HB1
          clear HB1
          have HC := Aside0.mk hC
          have NE : ad.block ≠ g := by have := blk_lt BKg.out; omega
          have BKg1 := Aside0.mk (blk_below BKg.out hb)
          clear BKg
          have BKg := BKg1
          clear BKg1
          clear hC hO hb
          refine hK.out _ _ hS (fun hHeld => ?_)
          clear hK K hS
          refine norm_ (a' := ?_) ?_ ?_
          rotate_left
          · show Act.put _ (some 20) _ = _
            simp only [Act.put, List.setIfInBounds_toArray, List.set_cons_zero, List.set_cons_succ, i64_w, i32_w]
            rfl
          refine pure_ (i := 5) (N := some 23) (v := ?_) (a' := ?_) #[true, true, true, true, true, true, false, true, true, false, true, false] rfl rfl (any_of HT_.out (by kernel_rfl)) (fun _ _ _ h => h) (Or.inl ⟨by rfl, ?_⟩) ?_ ?_
          rotate_left
          · intro w'
            go_simp
            with_reducible rfl
          rotate_left
          · simp only [Act.put, List.setIfInBounds_toArray, List.set_cons_zero, List.set_cons_succ, i64_w, i32_w]
            rfl
          exact norm_ (by simp only [putAll, Act.put, List.setIfInBounds_toArray, List.set_cons_zero, List.set_cons_succ]) (hCont1 (ad, c, g) _ ⟨hHeld, HC.out, BKg.out, hgt, NE, HB.out⟩)
      · rintro ⟨ad, c, g⟩ W ⟨hHeld, hC, hbox, hgt, NE, hB⟩
        dsimp only at hC hbox hgt NE
        clear HB
        have HB := Aside0.mk hB
        have HC := Aside0.mk hC
        have BKg := Aside0.mk hbox
        clear hC hbox hB
        refine norm_ (a' := ?_) ?_ ?_
        rotate_left
        · simp only [putAll, Act.put, List.setIfInBounds_toArray, List.set_cons_zero, List.set_cons_succ]
          rfl
        refine one_ (i := 6) (N := some 24) #[true, true, true, true, true, true, true, true, true, false, true, false] rfl rfl (one_of HT_.out (by kernel_rfl)) (by decide) (fun K hK => ?_)
        obtain ⟨ad', e1, hx0, hx1, hx2⟩ := at_T70 HC.out n0 (by omega) ltz
        cases e1
        simp only [Int.toNat_natCast] at hx0 hx1 hx2
        rw [show rd_T70 L (n0 : Int) = L.getD n0 z70 from rfl, hm] at hx0 hx1 hx2
        refine val_ (v := .agg #[.int .i64 m.f0, .int .i64 m.f1, .int .i64 m.f2]) (by rfl) rfl ?_ ?_
        · first | (go_simp; done) | (go_simp; rfl)
        have hS := hHeld
        clear hx0 hx1 hx2
        refine hK.out _ _ hS (fun hHeld => ?_)
        clear hK K hS
        refine norm_ (a' := ?_) ?_ ?_
        rotate_left
        · show Act.put _ (some 24) _ = _
          simp only [Act.put, List.setIfInBounds_toArray, List.set_cons_zero, List.set_cons_succ, i64_w, i32_w]
          rfl
        exact norm_ (by simp only [putAll, Act.put, List.setIfInBounds_toArray, List.set_cons_zero, List.set_cons_succ]) (hCont2 (ad, c, g) _ ⟨hHeld, HC.out, BKg.out, hgt, NE, HB.out⟩)
    · rintro ⟨ad, c, g⟩ W ⟨hHeld, hC, hbox, hgt, NE, hB⟩
      dsimp only at hC hbox hgt NE
      clear HB
      have HB := Aside0.mk hB
      have HC := Aside0.mk hC
      have BKg := Aside0.mk hbox
      clear hC hbox hB
      refine norm_ (a' := ?_) ?_ ?_
      rotate_left
      · simp only [putAll, Act.put, List.setIfInBounds_toArray, List.set_cons_zero, List.set_cons_succ]
        rfl
      refine one_ (i := 9) (N := some 27) #[true, true, true, true, true, true, true, true, true, true, true, false] rfl rfl (one_of HT_.out (by kernel_rfl)) (by decide) (fun K hK => ?_)
      refine goes_ Try.func94 (by kernel_rfl) rfl #[.agg #[.int .i64 m.f0, .int .i64 m.f1, .int .i64 m.f2], .int .i64 b1] (by rfl) rfl rfl (by (try simp only [List.map_toArray, List.map_cons, List.map_nil]); first | done | rfl) ?_
      refine (weigh_mark_times.calls m.f0 m.f1 m.f2 b1 t0 t1 t2 _ HTM.out).mono ?_
      rintro e W ⟨rfl, hb⟩
      refine ⟨_, rfl, ?_⟩
      have hS := And.intro ((hb.cell (World.block_lt_of_cell? _ _ hHeld.1)).trans hHeld.1) ((hb.cell (World.block_lt_of_cell? _ _ hHeld.2)).trans hHeld.2)
      have HB1 := Aside0.mk (HB.out.trans (hb.mono HB.out.size))
      have HC1x := Aside0.mk (Kd.C_below HC.out hb)
      clear HB HC
      have HB := HB1
      have HC := HC1x
      clear HB1 HC1x
      have BKg1 := Aside0.mk (blk_below BKg.out hb)
      clear BKg
      have BKg := BKg1
      clear BKg1
      clear hb
      refine hK.out _ _ hS (fun hHeld => ?_)
      clear hK K hS
      refine norm_ (a' := ?_) ?_ ?_
      rotate_left
      · show Act.put _ (some 27) _ = _
        simp only [Act.put, List.setIfInBounds_toArray, List.set_cons_zero, List.set_cons_succ, i64_w, i32_w]
        rfl
      exact norm_ (by simp only [putAll, Act.put, List.setIfInBounds_toArray, List.set_cons_zero, List.set_cons_succ]) (hCont3 (ad, c, g) _ ⟨hHeld, HC.out, BKg.out, hgt, NE, HB.out⟩)
  rintro ⟨ad, c, g⟩ W ⟨hHeld, hC, hbox, hgt, NE, hB⟩
  dsimp only at hC hbox hgt NE
  clear HB
  have HB := Aside0.mk hB
  have HC := Aside0.mk hC
  have BKg := Aside0.mk hbox
  clear hC hbox hB
  refine norm_ (a' := ?_) ?_ ?_
  rotate_left
  · simp only [putAll, Act.put, List.setIfInBounds_toArray, List.set_cons_zero, List.set_cons_succ]
    rfl
  refine one_ (i := 11) (N := none) #[true, true, true, true, true, true, true, true, true, true, true, true] rfl rfl (one_of HT_.out (by kernel_rfl)) (by decide) (fun K hK => ?_)
  have nb : w.heap.size ≠ g := by omega
  have hs0 := blk_cell BKg.out 0
  have hs1 := blk_cell BKg.out 1
  have hs2 := blk_cell BKg.out 2
  simp only [List.getElem?_toArray, List.getElem?_cons_zero, List.getElem?_cons_succ] at hs0 hs1 hs2
  have hf0 := blk_frozen BKg.out 0
  have hf1 := blk_frozen BKg.out 1
  have hf2 := blk_frozen BKg.out 2
  refine skip_ (w1 := ?_) (by rfl) rfl ?_ ?_
  rotate_left
  · go_simp
    rfl
  refine hK.out _ _ ⟨((cell_far (p := ⟨g, _, none⟩) nb _).trans ((cell_far (p := ⟨g, _, none⟩) nb _).trans ((cell_far (p := ⟨g, _, none⟩) nb _).trans hHeld.1))), ((cell_far (p := ⟨g, _, none⟩) nb _).trans ((cell_far (p := ⟨g, _, none⟩) nb _).trans ((cell_far (p := ⟨g, _, none⟩) nb _).trans hHeld.2)))⟩ (fun hHeld => ?_)
  clear hK K
  refine done_ (done_of HT_.out (by kernel_rfl)) ?_
  have BK' := Aside0.mk (blk_set (blk_set (blk_set BKg.out 0 (.int .i64 t0)) 1 (.int .i64 t1)) 2 (.int .i64 t2))
  have HB' : Aside0 (Below w.heap.size w (((W.setCell ⟨g, 0, none⟩ (.int .i64 t0)).setCell ⟨g, 1, none⟩ (.int .i64 t1)).setCell ⟨g, 2, none⟩ (.int .i64 t2))) := ⟨below_set (below_set (below_set HB.out (Nat.le_of_lt hgt)) (Nat.le_of_lt hgt)) (Nat.le_of_lt hgt)⟩
  clear hs0 hs1 hs2 hf0 hf1 hf2 hHeld
  generalize (((W.setCell ⟨g, 0, none⟩ (.int .i64 t0)).setCell ⟨g, 1, none⟩ (.int .i64 t1)).setCell ⟨g, 2, none⟩ (.int .i64 t2)) = W6 at *
  have hsl := fun (W : World) (B : Nat) => slice70 W B l1.length few
  have CF := Aside0.mk (show slices_Clone_int_int.f (cut3 l1.length ⟨t0, t1, t2⟩) = some (cut3 l1.length ⟨t0, t1, t2⟩) by unfold slices_Clone_int_int.f; rw [if_pos]; simp [cut3]; omega)
  have CL : (cut3 l1.length ⟨t0, t1, t2⟩).length = l1.length := by simp [cut3]; omega
  go_wp2_with fail
  have hcall := slices_Clone_int_int.calls (some ⟨g, 0, none⟩) 3 (cut3 l1.length ⟨t0, t1, t2⟩) (cut3 l1.length ⟨t0, t1, t2⟩) W6 (by rw [CL]; exact C_block (l := [t0, t1, t2]) BK'.out l1.length few (by simp)) (by rw [CL]; exact few) CF.out
  rw [CL] at hcall
  refine hcall.mono ?_
  rintro e w' ⟨vc, rfl, hO1, hb1⟩
  have HO1 := Aside0.mk (Kd.R_lower hO1 HB'.out.size)
  have HB1 := Aside0.mk (HB'.out.trans (hb1.mono HB'.out.size))
  clear hO1 hb1 hcall
  go_wp2
  go_ret2
  exact ⟨_, rfl, by rw [HR1.out]; exact HO1.out, HB1.out⟩
end Go.Proofs.Ytdbeochifofdoaa.X
end

section
-- Written by a program of this session (wip/hook.py, which runs the kit's print.py with contracts proved by hand). Not trusted: Lean checks it.
namespace Go.Proofs.Ytdbeochifofdoaa.X
open Go.RowKit Go.Proofs.YtdbeochifofdoaaW.PrintWords Go.Proofs.YtdbeochifofdoaaW.PrintLast Go.Proofs.YtdbeochifofdoaaW.PrintMore
attribute [local go_sem] max2_int min2_int max_two min_two max_three min_three max_four min_four   -- for this text's walks alone
set_option linter.unusedVariables false
set_option linter.unusedSimpArgs false

/-! ### weigh_cases: function 93 -/
def weigh_cases.l0 : Nat → List (S35) → Int → Int → Option ((List (S35)))
  | 0, _, _, _ => none
  | k + 1, x3, x5, x6 => if x6 < x5 then ((some (([(⟨x6, (-1)⟩ : S35), (⟨x6, 1⟩ : S35)] : List (S35)) : List (S35))).bind fun y365 => (if x3.length + y365.length < 8796093022208 then (weigh_cases.l0 k (x3 ++ y365) x5 (wrap64 (x6 + 1))) else (none))) else (some x3)
def weigh_cases.f (k : Nat) (a0 : Int) : Option ((List (S35))) := weigh_cases.l0 k ([] : List (S35)) a0 0
theorem weigh_cases.mono_l : ∀ k, (∀ y0 y1 y2, LeO (weigh_cases.l0 k y0 y1 y2) (weigh_cases.l0 (k + 1) y0 y1 y2))
  | 0 => fun _ _ _ r h => by simp [weigh_cases.l0] at h
  | k + 1 => by
    have ih0 := weigh_cases.mono_l k
    · intro y0 y1 y2
      unfold weigh_cases.l0
      repeat' first
      | (with_reducible exact ih0 _ _ _)
      | (with_reducible exact LeO.refl _)
      | (with_reducible exact LeO.none _)
      | (with_reducible refine LeO.ite ?_ ?_)
      | (with_reducible refine LeO.bind ?_ (fun _ => ?_))
      | exact ih0 _ _ _
      | exact LeO.none _
      | refine LeO.ite ?_ ?_
      | refine LeO.bind ?_ (fun _ => ?_)
theorem weigh_cases.mono : ∀ a0 k, LeO (weigh_cases.f k a0) (weigh_cases.f (k + 1) a0) := by
  intro a0 k
  have ih0 := weigh_cases.mono_l k
  unfold weigh_cases.f
  repeat' first
      | (with_reducible exact ih0 _ _ _)
      | (with_reducible exact LeO.refl _)
      | (with_reducible exact LeO.none _)
      | (with_reducible refine LeO.ite ?_ ?_)
      | (with_reducible refine LeO.bind ?_ (fun _ => ?_))
      | exact ih0 _ _ _
      | exact LeO.none _
      | refine LeO.ite ?_ ?_
      | refine LeO.bind ?_ (fun _ => ?_)
set_option maxHeartbeats 8000000 in
set_option maxRecDepth 100000 in
theorem weigh_cases.calls (k : Nat) (a0 : Int) (r : List (S35)) (w : World) (h : weigh_cases.f k a0 = some r) :
    Calls Try.prog 93 #[.int .i64 a0] w fun e w' => ∃ v0_ : Value, e = .returned (v0_) ∧ Kd.R k35 35 w' w.heap.size (fun _ => True) v0_ r ∧ Below w.heap.size w w' := by
  have hu35 := Try.underlying35
  have HB := Aside0.mk (Below.refl w.heap.size w)
  have H : (weigh_cases.l0 k ([] : List (S35)) a0 0) = some r := h
  clear h
  have H' := Aside0.mk H
  clear H
  go_enter Try.func93, Try.ntmps93
  go_wp2
  go_loopg [3, 6] k (fun kq v3 v6 w' => ∃ (x3_1 : List (S35)) (x6_1 : Int), v6 = .int .i64 x6_1 ∧ Aside0 (weigh_cases.l0 kq x3_1 a0 x6_1 = some r) ∧ Aside0 (kq ≤ k) ∧ Aside0 (Kd.R k35 35 w' w.heap.size (fun _ => True) v3 x3_1) ∧ Aside0 (Below w.heap.size w w'))
  case atStart => exact ⟨(([] : List (S35))), (0), (by first | rfl | (simp; done) | (simp [*]; done)), H', ⟨Nat.le_refl _⟩, ⟨by first | exact Kd.R_nil _ _ _ _ _ | exact Kd.N_nil _ _ _ _ _ | exact Kd.V_nil _ _ _ _ _ | exact Kd.Q_nil _ _ _ _ _ | exact Kd.S_nil _ _ _ _ _⟩, ⟨by repeat (first | (with_reducible first | exact HB.out | apply below_alloc | apply pw_below_drewN | apply below_drew1) | exact HB.out)⟩⟩
  case round =>
    clear H'
    obtain ⟨x3_1, x6_1, rfl, HA, HK1, HO_3, HB⟩ := hrel
    cases gk with
    | zero => exact absurd HA.out (by simp [weigh_cases.l0])
    | succ k1 =>
      have H := HA.out
      clear HA
      simp only [weigh_cases.l0] at H
      by_cases c2 : x6_1 < a0
      · rw [if_pos c2] at H
        have c2b0 : decide (x6_1 < a0) = true := decide_eq_true c2
        clear c2
        obtain ⟨y365, hy365⟩ : ∃ y_ : List (S35), y_ = (([(⟨x6_1, (-1)⟩ : S35), (⟨x6_1, 1⟩ : S35)] : List (S35))) := ⟨_, rfl⟩
        replace H : (if x3_1.length + y365.length < 8796093022208 then (weigh_cases.l0 k1 (x3_1 ++ y365) a0 (wrap64 (x6_1 + 1))) else (none)) = some r := by first | (rw [hy365]; with_reducible exact H) | (have H2_ := (Option.bind_some _ _).symm.trans H; rw [hy365]; with_reducible exact H2_) | (have H2_ := (Option.bind_some _ _).symm.trans H; with_reducible exact H2_) | with_reducible exact H | (rw [hy365]; exact H) | exact H
        have Ny365 := Aside0.mk hy365
        clear hy365
        by_cases c3 : x3_1.length + y365.length < 8796093022208
        · rw [if_pos c3] at H
          have LMc3 := Aside0.mk c3
          clear c3
          obtain ⟨y368, hy368⟩ : ∃ y_ : List (S35), y_ = (x3_1 ++ y365) := ⟨_, rfl⟩
          replace H : (weigh_cases.l0 k1 y368 a0 (wrap64 (x6_1 + 1))) = some r := by first | (rw [hy368]; with_reducible exact H) | (have H2_ := (Option.bind_some _ _).symm.trans H; rw [hy368]; with_reducible exact H2_) | (have H2_ := (Option.bind_some _ _).symm.trans H; with_reducible exact H2_) | with_reducible exact H | (rw [hy368]; exact H) | exact H
          have Ny368 := Aside0.mk hy368
          clear hy368
          have H' := Aside0.mk H
          clear H
          go_wp2_with (first | ((with_reducible refine gate_dst (N := 14) rfl ?_); refine Kd.R_lit k35 _ 35 ?hg (N := 14) ?hd (xs := ([(⟨x6_1, (-1)⟩ : S35), (⟨x6_1, 1⟩ : S35)] : List (S35))) (inner := [.int .i64 x6_1, .int .i64 (-1), .int .i64 x6_1, .int .i64 1]) (ok := fun _ => True) (okp := fun _ => True) ?hr ?hp (fun _ hk => hk) trivial (Below.refl _ _) (Nat.le_refl _) (by simp) ?_; (case hd => rfl); (case hg => rfl); (case hr => first | (go_simp; done) | (go_simp; rfl)); (case hp => exact (Reps.c2 (show Kd.M k35 _ _ _ (⟨x6_1, (-1)⟩ : S35) [.int .i64 x6_1, .int .i64 (-1)] from (k35_mkM _ _ _ (⟨x6_1, (-1)⟩ : S35) )) (Reps.c2 (show Kd.M k35 _ _ _ (⟨x6_1, 1⟩ : S35) [.int .i64 x6_1, .int .i64 1] from (k35_mkM _ _ _ (⟨x6_1, 1⟩ : S35) )) (Reps.none _ _)))); intro v366 w4 ho5 hb hg_ hnew_; clear hg_ hnew_; (first | rw [← Ny365.out] at ho5 | (simp only [Int.reduceToNat] at ho5; rw [← Ny365.out] at ho5)); have n0_ := Aside0.mk (Kd.R_elder' (by (with_reducible repeat (first | apply Kd.R_alloc | apply Kd.R_drewN | apply Kd.R_drew)); exact HO_3.out) (Kd.R_base ho5) hb); have n1_ := Aside0.mk (Kd.R_lower (Kd.R_new' ho5 (Kd.R_lt (by (with_reducible repeat (first | apply Kd.R_alloc | apply Kd.R_drewN | apply Kd.R_drew)); exact HO_3.out))) (below_size (by repeat (first | (with_reducible first | exact HB.out | apply below_alloc | apply pw_below_drewN | apply below_drew1) | exact HB.out)))); have n2_ := Aside0.mk (below_step (by repeat (first | (with_reducible first | exact HB.out | apply below_alloc | apply pw_below_drewN | apply below_drew1) | exact HB.out)) hb); clear HO_3; clear HB; have HO_3 := n0_; have HO367 := n1_; have HB := n2_; clear n0_ n1_ n2_; clear hb ho5; obtain ⟨Ao7, co7, eo7⟩ := Kd.R_slice HO367.out; subst eo7) | ((with_reducible refine gate_builtin (b := .append) (xs := #[.tmp 9, .tmp 14]) rfl ?_); at_builtin; refine Kd.R_append_rows k35 (w0 := w) w.heap.size rfl (.tmp 9) (.tmp 14) 71 35 (.agg #[(.int .i64 0), (.int .i64 0)]) 16 rfl Try.underlying71 info35 rfl (by decide) (by omega) u3 x3_1 y365 _ _ _ (fun k_ => some k_ ≠ (.slice Ao7 y365.length co7 : Value).ownBlock) (fun _ => False) rfl rfl ?aO ?aR (fun _ _ h => h) (fun _ h => h.elim) ?aF ?aB ?aS ?aL ?_; (case aR => repeat (first | exact (Kd.R_reads' HO367.out).2.2 | (with_reducible refine Kd.C_alloc ?_ _) | (with_reducible refine Kd.C_drewN ?_ _) | (with_reducible refine Kd.C_drew ?_))); (case aB => exact (by repeat (first | (with_reducible first | exact HB.out | apply below_alloc | apply pw_below_drewN | apply below_drew1) | exact HB.out))); (case aF => exact (fun k_ hk => Kd.fresh' (Kd.R_lt (by (with_reducible repeat (first | apply Kd.R_alloc | apply Kd.R_drewN | apply Kd.R_drew)); exact HO367.out)) k_ hk)); (case aO => exact (by (with_reducible repeat (first | apply Kd.R_alloc | apply Kd.R_drewN | apply Kd.R_drew)); exact Kd.R_mono HO_3.out (fun _ hk => hk.2))); (case aS => exact (below_size (by repeat (first | (with_reducible first | exact HB.out | apply below_alloc | apply pw_below_drewN | apply below_drew1) | exact HB.out)))); (case aL => have := LMc3.out; omega); intro v369 w6 ho hb hg hat; rw [← Ny368.out] at ho; have n0_ := Aside0.mk (Kd.R_after (ok := (fun _ => True)) (by (with_reducible repeat (first | apply Kd.R_alloc | apply Kd.R_drewN | apply Kd.R_drew)); exact HO367.out) hg hat); have n1_ := Aside0.mk (hb); have n2_ := Aside0.mk (ho); clear HO367; clear HB; clear HO_3; have HO367 := n0_; have HB := n1_; have HO370 := n2_; clear n0_ n1_ n2_; clear ho hb hg hat))
          go_roundg k1
          case measure => have := HK1.out; omega
          case rel => exact ⟨(y368), (wrap64 (x6_1 + 1)), (by first | rfl | (simp; done) | (simp [*]; done)), H', ⟨by have := HK1.out; omega⟩, ⟨by (with_reducible repeat (first | apply Kd.R_alloc | apply Kd.R_drewN | apply Kd.R_drew)); exact Kd.R_mono HO370.out (fun _ hk => trivial)⟩, ⟨by repeat (first | (with_reducible first | exact HB.out | apply below_alloc | apply pw_below_drewN | apply below_drew1) | exact HB.out)⟩⟩
        · rw [if_neg c3] at H
          exact absurd H (by simp)
      · rw [if_neg c2] at H
        have c2b0 : decide (x6_1 < a0) = false := decide_eq_false c2
        clear c2
        obtain rfl := Option.some.inj H
        go_wp2
        go_ret
        exact ⟨_, by first | rfl | (simp [errW_none, errW_some] <;> rfl) | (simp [*, errW_none, errW_some] <;> rfl), by (with_reducible repeat (first | apply Kd.R_alloc | apply Kd.R_drewN | apply Kd.R_drew)); exact HO_3.out, by repeat (first | (with_reducible first | exact HB.out | apply below_alloc | apply pw_below_drewN | apply below_drew1) | exact HB.out)⟩

-- GIVEN: function 55 (weigh_Possible): YtdbeochifofdoaaG55

end Go.Proofs.Ytdbeochifofdoaa.X
end

section
/-! weigh.Cases. -/
namespace Go.Proofs.Ytdbeochifofdoaa.X
open Go.RowKit Go.Proofs.YtdbeochifofdoaaW.PrintWords Go.Proofs.YtdbeochifofdoaaW.PrintLast Go.Proofs.YtdbeochifofdoaaW.PrintMore
set_option linter.unusedVariables false
set_option linter.unusedSimpArgs false
attribute [local go_sem high] eqA70

/-- All cases. -/
def casesL (lots : Int) : List S35 := (List.range lots.toNat).flatMap fun (n : Nat) => ([⟨(n : Int), -1⟩, ⟨(n : Int), 1⟩] : List S35)
def of3 (l : List Int) : S70 := ⟨l.getD 0 0, l.getD 1 0, l.getD 2 0⟩
def eq3 (a b : S70) : Bool := a.f0 == b.f0 && (a.f1 == b.f1 && a.f2 == b.f2)
def pickB (L : List S70) (g : S70) (c : S35) : Bool := eq3 (tim3 (L.getD c.f0.toNat z70) c.f1) g
def sideB (l : List Int) : Bool := l.any fun x => !(decide (-1 ≤ x) && decide (x ≤ 1))
def weigh_Cases.f (a0 : Int) (l1 : List S53) (l2 : List Int) : Option (List S35 × Bool × Int) :=
  if pErr a0 l1 = 0 then (if (l2.length != l1.length || sideB l2) = true then some ([], false, 1) else some ((casesL a0).filter (pickB (marksL a0 l1) (of3 l2)), isZ (of3 l2), 0)) else some ([], false, pErr a0 l1)
instance decS35 : DecidableEq S35 := fun a b => decidable_of_iff (a.f0 = b.f0 ∧ a.f1 = b.f1) (by cases a; cases b; simp)
set_option maxRecDepth 100000 in
theorem cases_is : ∀ n, n < 13 → weigh_cases.f 20 ((n + 1 : Nat) : Int) = some (casesL ((n + 1 : Nat) : Int)) := by decide +kernel
theorem eg102 (args : Array Value) (w : World) : (callFunc 102 args).run Try.prog w = .ok (.enter 102 args) w := enters_of Try.func102 (by kernel_rfl) rfl args w
theorem casesL_mem {lots : Int} {c : S35} (h : c ∈ casesL lots) : 0 ≤ c.f0 ∧ c.f0.toNat < lots.toNat := by
  unfold casesL at h
  rw [List.mem_flatMap] at h
  obtain ⟨n, hn, hc⟩ := h
  rw [List.mem_range] at hn
  simp only [List.mem_cons, List.not_mem_nil, or_false] at hc
  rcases hc with rfl | rfl <;> exact ⟨by simp, by simpa using hn⟩
theorem casesL_len (lots : Int) : (casesL lots).length = 2 * lots.toNat := by
  unfold casesL
  induction lots.toNat with
  | zero => rfl
  | succ n ih => rw [List.range_succ, List.flatMap_append, List.length_append, ih]; simp; omega
/-- The given answers, in a mark. -/
theorem splice3 (l : List Int) (h : l.length ≤ 3) : splice [Value.int .i64 0, .int .i64 0, .int .i64 0] 0 (l.map (Value.int .i64)) = [.int .i64 (of3 l).f0, .int .i64 (of3 l).f1, .int .i64 (of3 l).f2] := by
  match l, h with
  | [], _ => rfl
  | [a], _ => rfl
  | [a, b], _ => rfl
  | [a, b, c], _ => rfl
set_option maxHeartbeats 4000000 in
set_option maxRecDepth 100000 in
theorem weigh_Cases.calls (a0 : Int) (A1 : Option Addr) (c1 : Nat) (l1 : List S53) (A2 : Option Addr) (c2 : Nat) (l2 : List Int) (r1 : List S35) (r2 : Bool) (r3 : Int) (w : World) (hr1 : Kd.C k53 w A1 l1.length l1) (hc1 : l1.length ≤ c1) (hr2 : Kd.C (Kd.int .i64) w A2 l2.length l2) (hc2 : l2.length ≤ c2) (h : weigh_Cases.f a0 l1 l2 = some (r1, r2, r3)) :
    Calls Try.prog 64 #[.int .i64 a0, .slice A1 l1.length c1, .slice A2 l2.length c2] w fun e w' => ∃ v0_ : Value, e = .returned (.tuple #[v0_, .bool r2, .int .i64 r3]) ∧ Kd.R k35 35 w' w.heap.size (fun _ => True) v0_ r1 ∧ Below w.heap.size w w' := by
  have HR1 := Aside0.mk hr1
  have HR2 := Aside0.mk hr2
  have HC1 := Aside0.mk hc1
  unfold weigh_Cases.f at h
  obtain ⟨p, hpe⟩ : ∃ p, p = pErr a0 l1 := ⟨_, rfl⟩
  have HF := Aside0.mk (show weigh_Validate.f a0 l1 = some p by rw [hpe]; rfl)
  have HP := Aside0.mk hpe
  rw [← hpe] at h
  clear hpe hr1 hc1 hr2
  go_enter Try.func64, Try.ntmps64
  go_wp2_with fail
  refine (weigh_Validate.calls a0 A1 c1 l1 p _ HR1.out HC1.out HF.out).mono ?_
  rintro e w1 ⟨rfl, hb⟩
  have HB1 := Aside0.mk hb
  clear hb
  by_cases hz : p = 0
  rotate_left
  · rw [if_neg hz] at h
    simp only [Option.some.injEq, Prod.mk.injEq] at h
    obtain ⟨rfl, rfl, rfl⟩ := h
    have q1 : (p != 0) = true := by simpa using hz
    go_wp2
    go_ret3
    exact ⟨_, rfl, Kd.R_nil _ _ _ _ _, HB1.out⟩
  subst hz
  rw [if_pos rfl] at h
  have ok := pErr_ok HP.out.symm
  have few := ok.few
  have HMF := Aside0.mk (show weigh_marks.f a0 l1 = some (marksL a0 l1) by unfold weigh_marks.f; rw [if_pos HP.out.symm])
  have hlen : (marksL a0 l1).length = a0.toNat := marksL_len' a0 l1
  have hlo := ok.lo
  have hhi := ok.hi
  obtain ⟨n, rfl⟩ := Int.eq_ofNat_of_zero_le (show 0 ≤ a0 by omega)
  have hCF := cases_is (n - 1) (by omega)
  rw [show n - 1 + 1 = n by omega] at hCF
  have HCF := Aside0.mk hCF
  have hcm : ∀ c, c ∈ casesL (n : Int) → 0 ≤ c.f0 ∧ c.f0.toNat < (marksL (n : Int) l1).length := fun c hc => by have := casesL_mem hc; rw [hlen]; exact this
  have hcl : (casesL (n : Int)).length ≤ 26 := by rw [casesL_len]; omega
  generalize casesL (n : Int) = cs at *
  generalize marksL (n : Int) l1 = L at *
  have HCM := Aside0.mk hcm
  clear hcm hCF ok hlen
  by_cases he : l2.length = l1.length
  rotate_left
  · have q1 : ((l2.length : Int) != (l1.length : Int)) = true := bne_iff_ne.mpr (by omega)
    have q2 : (l2.length != l1.length || sideB l2) = true := by simp [he]
    rw [if_pos q2] at h
    simp only [Option.some.injEq, Prod.mk.injEq] at h
    obtain ⟨rfl, rfl, rfl⟩ := h
    go_wp2
    go_ret3
    exact ⟨_, rfl, Kd.R_nil _ _ _ _ _, HB1.out⟩
  have q1 : ((l2.length : Int) != (l1.length : Int)) = false := bne_eq_false_iff_eq.mpr (by omega)
  have sl3 : l2.length ≤ 3 := by omega
  have HE := Aside0.mk he
  clear he
  go_wp2_with fail
  refine (containsFunc97 102 #[] eg102 (fun x => !(decide (-1 ≤ x) && decide (x ≤ 1))) A2 c2 l2 _ ?hr ?hp).mono ?_
  case hr => exact Kd.C_below HR2.out HB1.out
  case hp =>
    intro W x _ hbW
    exact lit102 x W
  rintro e w2 ⟨rfl, hb2⟩
  have HB2 := Aside0.mk (HB1.out.trans (hb2.mono HB1.out.size))
  clear HB1 hb2
  rw [show (l2.any fun x => !(decide (-1 ≤ x) && decide (x ≤ 1))) = sideB l2 from rfl]
  cases hs : sideB l2 with
  | true =>
    have q2 : (l2.length != l1.length || sideB l2) = true := by simp [hs]
    rw [if_pos q2] at h
    simp only [Option.some.injEq, Prod.mk.injEq] at h
    obtain ⟨rfl, rfl, rfl⟩ := h
    go_wp2
    go_ret3
    exact ⟨_, rfl, Kd.R_nil _ _ _ _ _, HB2.out⟩
  | false =>
    have q2 : (l2.length != l1.length || sideB l2) = false := by simp [hs, HE.out]
    rw [q2, if_neg (by simp)] at h
    simp only [Option.some.injEq, Prod.mk.injEq] at h
    obtain ⟨h1, h2, rfl⟩ := h
    have H1 := Aside0.mk h1
    have H2 := Aside0.mk h2
    have hsl := slice70all
    clear h1 h2 q2 hs
    go_wp2_with (with_reducible refine wpList_copy_splice rfl (.tmp 30) (.tmp 31) 43 43 rfl 3 Try.underlying43 (by kernel_rfl) (some ⟨w2.heap.size, 0, none⟩) A2 3 3 l2.length c2 rfl rfl w2.heap.size 0 [.int .i64 0, .int .i64 0, .int .i64 0] 70 ?cg (l2.map (Value.int .i64)) ?cn ?cp ?cf ?c1 w.heap.size w ?cb ?cB ?_)
    case cg => exact blk_new _ _
    case cn => simp [Nat.min_def]; omega
    case cp =>
      intro hpos
      obtain ⟨ad, hA, hc⟩ := HR2.out.2.2 hpos
      refine ⟨ad, hA, fun j x hx => ?_⟩
      obtain ⟨c, _, hc2, hc3⟩ := hc j x hx
      obtain rfl : c = [Value.int .i64 x] := hc2
      have hw := hc3 0 _ rfl
      rw [show (Kd.int .i64).sz = 1 from rfl, Nat.mul_one, Nat.add_zero] at hw
      exact (World.cell?_alloc_lt _ _ _ (by have := World.block_lt_of_cell? _ _ hw; have := HB2.out.size; omega)).trans ((HB2.out.cell (World.block_lt_of_cell? w _ hw)).trans hw)
    case cf => rw [List.length_map]; simp; omega
    case c1 => intro v hv; obtain ⟨x, _, rfl⟩ := List.mem_map.1 hv; rfl
    case cb => exact below_alloc HB2.out _
    case cB => exact HB2.out.size
    intro w3 hh hb3
    rw [splice3 l2 sl3] at hh
    have BK3 := Aside0.mk hh.out
    have HB3 := Aside0.mk hb3
    have szg := HB2.out.size
    clear hh hb3 HB2
    obtain ⟨gB, hgB⟩ : ∃ g, g = w2.heap.size := ⟨_, rfl⟩
    rw [← hgB] at BK3 szg ⊢
    clear hgB
    go_wp2_with fail
    refine (weigh_marks.calls (n : Int) A1 c1 l1 L _ (Kd.C_below HR1.out HB3.out) HC1.out HMF.out).mono ?_
    rintro e w4 ⟨v, rfl, hO, hb⟩
    obtain ⟨A, c, rfl⟩ := Kd.R_slice hO
    obtain ⟨_, hLc, hC⟩ := Kd.R_reads' hO
    have HL4 := Aside0.mk hC
    have BK4 := Aside0.mk (blk_below BK3.out hb)
    have HB4 := Aside0.mk (HB3.out.trans (hb.mono HB3.out.size))
    clear BK3 HB3 hO hC hb
    go_wp2_with fail
    refine (weigh_cases.calls 20 (n : Int) cs _ HCF.out).mono ?_
    rintro e w5 ⟨v, rfl, hO, hb⟩
    obtain ⟨Ac, cc, rfl⟩ := Kd.R_slice hO
    obtain ⟨_, hcc, hC⟩ := Kd.R_reads' hO
    have HCS := Aside0.mk hC
    have HL5 := Aside0.mk (Kd.C_below HL4.out hb)
    have BK5 := Aside0.mk (blk_below BK4.out hb)
    have HB5 := Aside0.mk (HB4.out.trans (hb.mono HB4.out.size))
    clear BK4 HB4 HL4 hO hC hb
    go_wp2
    go_loopg [12, 39] cs.length (fun gg v12 s wr => ∃ (i : Nat) (xs : List S35), i ≤ cs.length ∧ cs.length - i ≤ gg ∧ s = .int .i64 i ∧ Aside0 (Below w5.heap.size w5 wr) ∧ Aside0 (Kd.R k35 35 wr w5.heap.size (fun _ => True) v12 xs) ∧ Aside0 (xs = (cs.take i).filter (pickB L (of3 l2))))
    case atStart => exact ⟨0, [], Nat.zero_le _, by omega, rfl, ⟨Below.refl _ _⟩, ⟨Kd.R_nil _ _ _ _ _⟩, ⟨by simp⟩⟩
    case round =>
      obtain ⟨i, xs, hi, hg, rfl, BR, HO, AX⟩ := hrel
      by_cases hil : i < cs.length
      · have hilz : (i : Int) < (cs.length : Int) := by omega
        obtain ⟨ad, e1, hx0, hx1⟩ := at_T35 HCS.out i (by omega) hilz
        cases e1
        replace hx0 := (BR.out.cell (World.block_lt_of_cell? w5 _ hx0)).trans hx0
        replace hx1 := (BR.out.cell (World.block_lt_of_cell? w5 _ hx1)).trans hx1
        simp only [Int.toNat_natCast] at hx0 hx1
        rw [show rd_T35 cs (i : Int) = cs.getD i z35 from rfl] at hx0 hx1
        have Bi : Aside0 (cs.take (i + 1) = cs.take i ++ [cs.getD i z35]) := ⟨by rw [List.take_succ_eq_append_getElem hil]; simp [List.getD_eq_getElem?_getD, List.getElem?_eq_getElem hil]⟩
        obtain ⟨m0, m1⟩ := HCM.out _ (mem_getD z35 cs i hil)
        generalize cs.getD i z35 = c0 at *
        obtain ⟨x0, x1⟩ := c0
        dsimp only at hx0 hx1 m0 m1
        obtain ⟨y0, rfl⟩ := Int.eq_ofNat_of_zero_le m0
        rw [Int.toNat_natCast] at m1
        have hicc : (i : Int) ≤ (cc : Int) := by omega
        go_wp2
        obtain ⟨adL, e2, hm0, hm1, hm2⟩ := at_T70 HL5.out (y0 : Int) (by omega) (by omega)
        cases e2
        simp only [Int.toNat_natCast] at hm0 hm1 hm2
        rw [show rd_T70 L (y0 : Int) = L.getD y0 z70 from rfl] at hm0 hm1 hm2
        replace hm0 := (BR.out.cell (World.block_lt_of_cell? w5 _ hm0)).trans hm0
        replace hm1 := (BR.out.cell (World.block_lt_of_cell? w5 _ hm1)).trans hm1
        replace hm2 := (BR.out.cell (World.block_lt_of_cell? w5 _ hm2)).trans hm2
        have BKr := blk_below BK5.out BR.out
        have hg0 := blk_cell BKr 0
        have hg1 := blk_cell BKr 1
        have hg2 := blk_cell BKr 2
        simp only [List.getElem?_toArray, List.getElem?_cons_zero, List.getElem?_cons_succ] at hg0 hg1 hg2
        have hb0 := Below.alloc (Below.refl wr.heap.size wr) (Nat.le_refl _) (.cells #[.int .i64 (y0 : Int), .int .i64 x1] 35)
        replace hm0 := (hb0.cell (World.block_lt_of_cell? wr _ hm0)).trans hm0
        replace hm1 := (hb0.cell (World.block_lt_of_cell? wr _ hm1)).trans hm1
        replace hm2 := (hb0.cell (World.block_lt_of_cell? wr _ hm2)).trans hm2
        replace hg0 := (hb0.cell (World.block_lt_of_cell? wr _ hg0)).trans hg0
        replace hg1 := (hb0.cell (World.block_lt_of_cell? wr _ hg1)).trans hg1
        replace hg2 := (hb0.cell (World.block_lt_of_cell? wr _ hg2)).trans hg2
        have BKc := blk_new wr (.cells #[.int .i64 (y0 : Int), .int .i64 x1] 35)
        have hc0 := blk_cell BKc 0
        have hc1 := blk_cell BKc 1
        simp only [List.getElem?_toArray, List.getElem?_cons_zero, List.getElem?_cons_succ] at hc0 hc1
        obtain ⟨gc, hgc⟩ : ∃ g, g = wr.heap.size := ⟨_, rfl⟩
        have HBa := Aside0.mk hb0
        have BKc' := Aside0.mk BKc
        rw [← hgc] at hc0 hc1 BKc' ⊢
        have HGC := Aside0.mk hgc
        clear hx0 hx1 hgc BKc hb0 BKr
        generalize hwn : wr.alloc (.cells #[.int .i64 (y0 : Int), .int .i64 x1] 35) = wn at *
        clear hwn
        obtain ⟨m, hm⟩ : ∃ m, m = L.getD y0 z70 := ⟨_, rfl⟩
        rw [← hm] at hm0 hm1 hm2
        have HM := Aside0.mk hm
        obtain ⟨t0, ht0⟩ : ∃ z, z = wrap64 (m.f0 * x1) := ⟨_, rfl⟩
        obtain ⟨t1, ht1⟩ : ∃ z, z = wrap64 (m.f1 * x1) := ⟨_, rfl⟩
        obtain ⟨t2, ht2⟩ : ∃ z, z = wrap64 (m.f2 * x1) := ⟨_, rfl⟩
        have HTM := Aside0.mk (show weigh_mark_times.f m.f0 m.f1 m.f2 x1 = some (t0, t1, t2) by rw [ht0, ht1, ht2]; rfl)
        have HPB := Aside0.mk (show pickB L (of3 l2) (⟨(y0 : Int), x1⟩ : S35) = (t0 == (of3 l2).f0 && (t1 == (of3 l2).f1 && t2 == (of3 l2).f2)) by
          unfold pickB tim3 eq3
          dsimp only
          rw [Int.toNat_natCast, ← hm, ht0, ht1, ht2])
        clear ht0 ht1 ht2 hm
        have SK : ∀ W, Below wn.heap.size wn W → (Below wn.heap.size wn W ∧ W.cell? ⟨gc, 0, none⟩ = some (.int .i64 (y0 : Int)) ∧ W.cell? ⟨gc, 1, none⟩ = some (.int .i64 x1) ∧ W.cell? (adL.add (y0 * 3)) = some (.int .i64 m.f0) ∧ W.cell? ⟨(adL.add (y0 * 3)).block, (adL.add (y0 * 3)).off + 1, none⟩ = some (.int .i64 m.f1) ∧ W.cell? ⟨(adL.add (y0 * 3)).block, (adL.add (y0 * 3)).off + 2, none⟩ = some (.int .i64 m.f2) ∧ W.cell? ⟨gB, 0, none⟩ = some (.int .i64 (of3 l2).f0) ∧ W.cell? ⟨gB, 1, none⟩ = some (.int .i64 (of3 l2).f1) ∧ W.cell? ⟨gB, 2, none⟩ = some (.int .i64 (of3 l2).f2)) := fun W hb => ⟨hb, (hb.cell (World.block_lt_of_cell? _ _ hc0)).trans hc0, (hb.cell (World.block_lt_of_cell? _ _ hc1)).trans hc1, (hb.cell (World.block_lt_of_cell? _ _ hm0)).trans hm0, (hb.cell (World.block_lt_of_cell? _ _ hm1)).trans hm1, (hb.cell (World.block_lt_of_cell? _ _ hm2)).trans hm2, (hb.cell (World.block_lt_of_cell? _ _ hg0)).trans hg0, (hb.cell (World.block_lt_of_cell? _ _ hg1)).trans hg1, (hb.cell (World.block_lt_of_cell? _ _ hg2)).trans hg2⟩
        have hS0 := SK _ (below_drew1 (Below.refl _ wn))
        have CT : Aside0 (∀ W, Below wn.heap.size wn W → Calls Try.prog 94 #[.agg #[.int .i64 m.f0, .int .i64 m.f1, .int .i64 m.f2], .int .i64 x1] W fun e w' => e = .returned (.agg #[.int .i64 t0, .int .i64 t1, .int .i64 t2]) ∧ Below W.heap.size W w' ∧ Below wn.heap.size wn w') :=
          ⟨fun W hW => (weigh_mark_times.calls m.f0 m.f1 m.f2 x1 t0 t1 t2 W HTM.out).mono (by rintro e w' ⟨rfl, hb⟩; exact ⟨rfl, hb, hW.trans (hb.mono hW.size)⟩)⟩
        have y0l : ((y0 : Int) < (L.length : Int)) := by omega
        have y0g : (0 : Int) ≤ (y0 : Int) := by omega
        have y0c : ((y0 : Int) ≤ (c : Int)) := by omega
        go_region_held3 (fun W => Below wn.heap.size wn W ∧ W.cell? ⟨gc, 0, none⟩ = some (.int .i64 (y0 : Int)) ∧ W.cell? ⟨gc, 1, none⟩ = some (.int .i64 x1) ∧ W.cell? (adL.add (y0 * 3)) = some (.int .i64 m.f0) ∧ W.cell? ⟨(adL.add (y0 * 3)).block, (adL.add (y0 * 3)).off + 1, none⟩ = some (.int .i64 m.f1) ∧ W.cell? ⟨(adL.add (y0 * 3)).block, (adL.add (y0 * 3)).off + 2, none⟩ = some (.int .i64 m.f2) ∧ W.cell? ⟨gB, 0, none⟩ = some (.int .i64 (of3 l2).f0) ∧ W.cell? ⟨gB, 1, none⟩ = some (.int .i64 (of3 l2).f1) ∧ W.cell? ⟨gB, 2, none⟩ = some (.int .i64 (of3 l2).f2)) ((first | with_reducible assumption | exact hS0 | exact SK _ hBT | fail)) (first | (go_at_call 94; with_reducible refine (CT.out _ ?_).mono ?_; (first | with_reducible assumption | exact hS0.1 | (apply And.left; with_reducible assumption)); rintro e w6 ⟨rfl, hB6, hBT⟩))
        obtain ⟨_, k0, k1, _, _, _, _, _, _⟩ := SK _ hBT
        have HBn := Aside0.mk (BR.out.trans (HBa.out.mono BR.out.size))
        have HB6 := Aside0.mk (HBn.out.trans (hBT.mono HBn.out.size))
        have HO6 := Aside0.mk (Kd.R_below (Kd.R_below HO.out HBa.out) hBT)
        clear hS0 SK CT hBT hB6 HBa
        have s6 := HB6.out.size
        have hxl : xs.length ≤ 26 := by rw [AX.out]; exact Nat.le_trans (List.length_filter_le _ _) (by rw [List.length_take]; omega)
        generalize hE : (t0 == (of3 l2).f0 && (t1 == (of3 l2).f1 && t2 == (of3 l2).f2)) = be at *
        clear hE hg0 hg1 hg2 hm0 hm1 hm2 hc0 hc1
        cases be with
        | true =>
          obtain ⟨Av, cv, rfl⟩ := Kd.R_slice HO6.out
          go_wp2_with (at_builtin; refine Kd.R_append k35 (w0 := w5) w5.heap.size rfl (.tmp 53) (.tmp 55) 71 35 (.agg #[(.int .i64 0), (.int .i64 0)]) 16 rfl Try.underlying71 info35 rfl (by decide) (by omega) (.slice Av xs.length cv) xs (⟨(y0 : Int), x1⟩ : S35) [.int .i64 (y0 : Int), .int .i64 x1] (fun _ => True) (fun _ => False) rfl rfl ?aP ?aK ?aF ?aO ?aB ?aS ?aL ?_)
          case aP => exact k35_mkM _ _ _ (⟨(y0 : Int), x1⟩ : S35)
          case aK => exact fun _ h => h.elim
          case aF => exact fun _ _ => trivial
          case aO => exact HO6.out
          case aB => exact HB6.out
          case aS => exact HB6.out.size
          case aL => omega
          intro v1 w7 hN hB7 _ _
          have HN := Aside0.mk hN
          have HB7 := Aside0.mk hB7
          clear hN hB7
          go_wp2
          go_roundg (cs.length - (i + 1))
          case measure => omega
          case rel =>
            refine ⟨i + 1, _, by omega, by omega, by go_num, HB7, HN, ⟨?_⟩⟩
            rw [Bi.out, List.filter_append, ← AX.out]
            simp [HPB.out]
        | false =>
          go_wp2
          go_roundg (cs.length - (i + 1))
          case measure => omega
          case rel =>
            refine ⟨i + 1, xs, by omega, by omega, by go_num, HB6, HO6, ⟨?_⟩⟩
            rw [Bi.out, List.filter_append, ← AX.out]
            simp [HPB.out]
      · have hilz : ¬ (i : Int) < (cs.length : Int) := by omega
        have hil' : cs.length ≤ i := by omega
        have BKr := blk_below BK5.out BR.out
        have hg0 := blk_cell BKr 0
        have hg1 := blk_cell BKr 1
        have hg2 := blk_cell BKr 2
        simp only [List.getElem?_toArray, List.getElem?_cons_zero, List.getElem?_cons_succ] at hg0 hg1 hg2
        clear BKr
        go_wp2
        go_quiet (fail)
        go_wp2
        go_ret3
        refine ⟨_, by rw [← H2.out]; rfl, ?_, pw_below_drewN (HB5.out.trans (BR.out.mono HB5.out.size)) _⟩
        have hR := Kd.R_drewN (Kd.R_lower HO.out HB5.out.size) nq
        rw [AX.out, List.take_of_length_le hil', H1.out] at hR
        exact hR
end Go.Proofs.Ytdbeochifofdoaa.X
end
