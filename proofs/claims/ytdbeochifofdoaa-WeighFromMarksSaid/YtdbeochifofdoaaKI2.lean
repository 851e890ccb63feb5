/- The law WeighFromMarks of the given program: the plan with given marks.
Its conditions: none beyond the statement's own. Part 3 of 6 of the proof. -/
import Derived.Test.YtdbeochifofdoaaKI1
section
-- Written by a program of this session (wip/hook.py, which runs the kit's print.py with contracts proved by hand). Not trusted: Lean checks it.
namespace Go.Proofs.Ytdbeochifofdoaa.X
open Go.RowKit Go.Proofs.YtdbeochifofdoaaW.PrintWords Go.Proofs.YtdbeochifofdoaaW.PrintLast Go.Proofs.YtdbeochifofdoaaW.PrintMore
attribute [local go_sem] max2_int min2_int max_two min_two max_three min_three max_four min_four   -- for this text's walks alone
set_option linter.unusedVariables false
set_option linter.unusedSimpArgs false

/-! ### verditerref06_FromMarks: function 69 -/
mutual
def verditerref06_FromMarks.l0 : Nat → List (List Int) → Int → Option ((List (S53)) × Int)
  | 0, _, _ => none
  | k + 1, x0, x4 => if x4 < (x0.length : Int) then (if 0 ≤ x4 then (if ((rd_L5 x0 x4).length : Int) > 3 then (some (([] : List (S53)), 3)) else (verditerref06_FromMarks.l0 k x0 (wrap64 (x4 + 1)))) else (none)) else (verditerref06_FromMarks.l1 k x0 0)
def verditerref06_FromMarks.l1 : Nat → List (List Int) → Int → Option ((List (S53)) × Int)
  | 0, _, _ => none
  | k + 1, x0, x5 => if x5 < (x0.length : Int) then (if 0 ≤ x5 then (if 0 < (x0.length : Int) then (if ((rd_L5 x0 x5).length : Int) = ((rd_L5 x0 0).length : Int) then (verditerref06_FromMarks.l2 k x0 x5 0) else (some (([] : List (S53)), 1))) else (none)) else (none)) else (verditerref06_FromMarks.l3 k x0 ([] : List (S53)) 0)
def verditerref06_FromMarks.l2 : Nat → List (List Int) → Int → Int → Option ((List (S53)) × Int)
  | 0, _, _, _ => none
  | k + 1, x0, x5, x6 => if 0 ≤ x5 then (if x5 < (x0.length : Int) then (if x6 < ((rd_L5 x0 x5).length : Int) then (if 0 ≤ x6 then ((verditerref06_within.f (rd (rd_L5 x0 x5) x6) (-1) 1).bind fun t532 => (if t532 = true then (verditerref06_FromMarks.l2 k x0 x5 (wrap64 (x6 + 1))) else (some (([] : List (S53)), 1)))) else (none)) else (verditerref06_FromMarks.l1 k x0 (wrap64 (x5 + 1)))) else (none)) else (none)
def verditerref06_FromMarks.l3 : Nat → List (List Int) → List (S53) → Int → Option ((List (S53)) × Int)
  | 0, _, _, _ => none
  | k + 1, x0, x7, x8 => if 0 < (x0.length : Int) then (if x8 < ((rd_L5 x0 0).length : Int) then (verditerref06_FromMarks.l4 k x0 x7 x8 0 0 ([] : List Int) ([] : List Int)) else (some (x7, 0))) else (none)
def verditerref06_FromMarks.l4 : Nat → List (List Int) → List (S53) → Int → Int → Int → List Int → List Int → Option ((List (S53)) × Int)
  | 0, _, _, _, _, _, _, _ => none
  | k + 1, x0, x7, x8, x10, x11, x535000, x535001 => if x11 < (x0.length : Int) then (if 0 ≤ x11 then (if 0 ≤ x8 then (if x8 < ((rd_L5 x0 x11).length : Int) then (if (rd (rd_L5 x0 x11) x8) = 1 then (if x535000.length < 17592186044416 then ((some (x535000 ++ [x11] : List Int)).bind fun y542 => (if (rd (rd_L5 x0 x11) x8) = (-1) then (if x535001.length < 17592186044416 then (verditerref06_FromMarks.l4 k x0 x7 x8 (wrap64 (x10 + (rd (rd_L5 x0 x11) x8))) (wrap64 (x11 + 1)) y542 (x535001 ++ [x11])) else (none)) else (verditerref06_FromMarks.l4 k x0 x7 x8 (wrap64 (x10 + (rd (rd_L5 x0 x11) x8))) (wrap64 (x11 + 1)) y542 x535001))) else (none)) else (if (rd (rd_L5 x0 x11) x8) = (-1) then (if x535001.length < 17592186044416 then (verditerref06_FromMarks.l4 k x0 x7 x8 (wrap64 (x10 + (rd (rd_L5 x0 x11) x8))) (wrap64 (x11 + 1)) x535000 (x535001 ++ [x11])) else (none)) else (verditerref06_FromMarks.l4 k x0 x7 x8 (wrap64 (x10 + (rd (rd_L5 x0 x11) x8))) (wrap64 (x11 + 1)) x535000 x535001))) else (none)) else (none)) else (none)) else (if x10 = 0 then (if x7.length < 2932031007402 then (verditerref06_FromMarks.l3 k x0 (x7 ++ [(⟨x535000, x535001⟩ : S53)]) (wrap64 (x8 + 1))) else (none)) else (some (([] : List (S53)), 5)))
end
def verditerref06_FromMarks.f (k : Nat) (l0 : List (List Int)) : Option ((List (S53)) × Int) := (verditerref06_within.f (l0.length : Int) 1 13).bind fun t525 => (if t525 = true then (verditerref06_FromMarks.l0 k l0 0) else (some (([] : List (S53)), 3)))
theorem verditerref06_FromMarks.mono_l : ∀ k, (∀ y0 y1, LeO (verditerref06_FromMarks.l0 k y0 y1) (verditerref06_FromMarks.l0 (k + 1) y0 y1)) ∧ (∀ y0 y1, LeO (verditerref06_FromMarks.l1 k y0 y1) (verditerref06_FromMarks.l1 (k + 1) y0 y1)) ∧ (∀ y0 y1 y2, LeO (verditerref06_FromMarks.l2 k y0 y1 y2) (verditerref06_FromMarks.l2 (k + 1) y0 y1 y2)) ∧ (∀ y0 y1 y2, LeO (verditerref06_FromMarks.l3 k y0 y1 y2) (verditerref06_FromMarks.l3 (k + 1) y0 y1 y2)) ∧ (∀ y0 y1 y2 y3 y4 y5 y6, LeO (verditerref06_FromMarks.l4 k y0 y1 y2 y3 y4 y5 y6) (verditerref06_FromMarks.l4 (k + 1) y0 y1 y2 y3 y4 y5 y6))
  | 0 => ⟨fun _ _ r h => by simp [verditerref06_FromMarks.l0] at h, fun _ _ r h => by simp [verditerref06_FromMarks.l1] at h, fun _ _ _ r h => by simp [verditerref06_FromMarks.l2] at h, fun _ _ _ r h => by simp [verditerref06_FromMarks.l3] at h, fun _ _ _ _ _ _ _ r h => by simp [verditerref06_FromMarks.l4] at h⟩
  | k + 1 => by
    obtain ⟨ih0, ih1, ih2, ih3, ih4⟩ := verditerref06_FromMarks.mono_l k
    refine ⟨?_, ?_, ?_, ?_, ?_⟩
    · intro y0 y1
      unfold verditerref06_FromMarks.l0
      repeat' first
      | (with_reducible exact ih0 _ _)
      | (with_reducible exact ih1 _ _)
      | (with_reducible exact ih2 _ _ _)
      | (with_reducible exact ih3 _ _ _)
      | (with_reducible exact ih4 _ _ _ _ _ _ _)
      | (with_reducible exact LeO.refl _)
      | (with_reducible exact LeO.none _)
      | (with_reducible refine LeO.ite ?_ ?_)
      | (with_reducible refine LeO.bind ?_ (fun _ => ?_))
      | exact ih0 _ _
      | exact ih1 _ _
      | exact ih2 _ _ _
      | exact ih3 _ _ _
      | exact ih4 _ _ _ _ _ _ _
      | exact LeO.none _
      | refine LeO.ite ?_ ?_
      | refine LeO.bind ?_ (fun _ => ?_)
    · intro y0 y1
      unfold verditerref06_FromMarks.l1
      repeat' first
      | (with_reducible exact ih0 _ _)
      | (with_reducible exact ih1 _ _)
      | (with_reducible exact ih2 _ _ _)
      | (with_reducible exact ih3 _ _ _)
      | (with_reducible exact ih4 _ _ _ _ _ _ _)
      | (with_reducible exact LeO.refl _)
      | (with_reducible exact LeO.none _)
      | (with_reducible refine LeO.ite ?_ ?_)
      | (with_reducible refine LeO.bind ?_ (fun _ => ?_))
      | exact ih0 _ _
      | exact ih1 _ _
      | exact ih2 _ _ _
      | exact ih3 _ _ _
      | exact ih4 _ _ _ _ _ _ _
      | exact LeO.none _
      | refine LeO.ite ?_ ?_
      | refine LeO.bind ?_ (fun _ => ?_)
    · intro y0 y1 y2
      unfold verditerref06_FromMarks.l2
      repeat' first
      | (with_reducible exact ih0 _ _)
      | (with_reducible exact ih1 _ _)
      | (with_reducible exact ih2 _ _ _)
      | (with_reducible exact ih3 _ _ _)
      | (with_reducible exact ih4 _ _ _ _ _ _ _)
      | (with_reducible exact LeO.refl _)
      | (with_reducible exact LeO.none _)
      | (with_reducible refine LeO.ite ?_ ?_)
      | (with_reducible refine LeO.bind ?_ (fun _ => ?_))
      | exact ih0 _ _
      | exact ih1 _ _
      | exact ih2 _ _ _
      | exact ih3 _ _ _
      | exact ih4 _ _ _ _ _ _ _
      | exact LeO.none _
      | refine LeO.ite ?_ ?_
      | refine LeO.bind ?_ (fun _ => ?_)
    · intro y0 y1 y2
      unfold verditerref06_FromMarks.l3
      repeat' first
      | (with_reducible exact ih0 _ _)
      | (with_reducible exact ih1 _ _)
      | (with_reducible exact ih2 _ _ _)
      | (with_reducible exact ih3 _ _ _)
      | (with_reducible exact ih4 _ _ _ _ _ _ _)
      | (with_reducible exact LeO.refl _)
      | (with_reducible exact LeO.none _)
      | (with_reducible refine LeO.ite ?_ ?_)
      | (with_reducible refine LeO.bind ?_ (fun _ => ?_))
      | exact ih0 _ _
      | exact ih1 _ _
      | exact ih2 _ _ _
      | exact ih3 _ _ _
      | exact ih4 _ _ _ _ _ _ _
      | exact LeO.none _
      | refine LeO.ite ?_ ?_
      | refine LeO.bind ?_ (fun _ => ?_)
    · intro y0 y1 y2 y3 y4 y5 y6
      unfold verditerref06_FromMarks.l4
      repeat' first
      | (with_reducible exact ih0 _ _)
      | (with_reducible exact ih1 _ _)
      | (with_reducible exact ih2 _ _ _)
      | (with_reducible exact ih3 _ _ _)
      | (with_reducible exact ih4 _ _ _ _ _ _ _)
      | (with_reducible exact LeO.refl _)
      | (with_reducible exact LeO.none _)
      | (with_reducible refine LeO.ite ?_ ?_)
      | (with_reducible refine LeO.bind ?_ (fun _ => ?_))
      | exact ih0 _ _
      | exact ih1 _ _
      | exact ih2 _ _ _
      | exact ih3 _ _ _
      | exact ih4 _ _ _ _ _ _ _
      | exact LeO.none _
      | refine LeO.ite ?_ ?_
      | refine LeO.bind ?_ (fun _ => ?_)
theorem verditerref06_FromMarks.mono : ∀ a0 k, LeO (verditerref06_FromMarks.f k a0) (verditerref06_FromMarks.f (k + 1) a0) := by
  intro a0 k
  obtain ⟨ih0, ih1, ih2, ih3, ih4⟩ := verditerref06_FromMarks.mono_l k
  unfold verditerref06_FromMarks.f
  repeat' first
      | (with_reducible exact ih0 _ _)
      | (with_reducible exact ih1 _ _)
      | (with_reducible exact ih2 _ _ _)
      | (with_reducible exact ih3 _ _ _)
      | (with_reducible exact ih4 _ _ _ _ _ _ _)
      | (with_reducible exact LeO.refl _)
      | (with_reducible exact LeO.none _)
      | (with_reducible refine LeO.ite ?_ ?_)
      | (with_reducible refine LeO.bind ?_ (fun _ => ?_))
      | exact ih0 _ _
      | exact ih1 _ _
      | exact ih2 _ _ _
      | exact ih3 _ _ _
      | exact ih4 _ _ _ _ _ _ _
      | exact LeO.none _
      | refine LeO.ite ?_ ?_
      | refine LeO.bind ?_ (fun _ => ?_)
set_option maxHeartbeats 8000000 in
set_option maxRecDepth 100000 in
theorem verditerref06_FromMarks.calls (k : Nat) (A0 : Option Addr) (c0 : Nat) (l0 : List (List Int)) (r1 : List (S53)) (r2 : Int) (w : World) (hr0 : Kd.C (Kd.slice 3 (Kd.int .i64)) w A0 l0.length l0) (hc0 : l0.length ≤ c0) (h : verditerref06_FromMarks.f k l0 = some (r1, r2)) :
    Calls Try.prog 69 #[.slice A0 l0.length c0] w fun e w' => ∃ v0_ : Value, e = .returned (.tuple #[v0_, .int .i64 r2]) ∧ Kd.S k53 53 w' w.heap.size (fun _ => True) v0_ r1 ∧ Below w.heap.size w w' := by
  have hu53 := Try.underlying53
  have HR0 := Aside0.mk hr0
  have HC0 := Aside0.mk hc0
  clear hr0 hc0
  have HB := Aside0.mk (Below.refl w.heap.size w)
  have H : ((verditerref06_within.f (l0.length : Int) 1 13).bind fun t525 => (if t525 = true then (verditerref06_FromMarks.l0 k l0 0) else (some (([] : List (S53)), 3)))) = some (r1, r2) := h
  clear h
  replace H := Option.bind_eq_some_iff.mp H
  obtain ⟨t525, A20, H⟩ := H
  replace H : (if t525 = true then (verditerref06_FromMarks.l0 k l0 0) else (some (([] : List (S53)), 3))) = some (r1, r2) := H
  have A2 := Aside0.mk A20
  clear A20
  by_cases c3 : t525 = true
  · subst c3
    have H1 : (verditerref06_FromMarks.l0 k l0 0) = some (r1, r2) := by rw [if_pos rfl] at H; exact H
    clear H
    have H := H1
    clear H1
    have H' := Aside0.mk H
    clear H
    go_enter Try.func69, Try.ntmps69
    go_wp2_with (first | (go_at_call 82; (with_reducible refine (verditerref06_within.calls (l0.length : Int) 1 13 true _ A2.out).mono ?_); rintro e w' ⟨rfl, ⟨nd, rfl⟩⟩; (try first | exact ⟨rfl, _, World.drewN_drewN _ _ _⟩ | exact ⟨rfl, _, Eq.trans (World.drewN_drewN _ _ _) (congrArg (World.drewN _) (Nat.add_assoc _ _ _))⟩)))
    repeat (go_quiet (first | (go_at_call 82; (with_reducible refine (verditerref06_within.calls (l0.length : Int) 1 13 true _ A2.out).mono ?_); rintro e w' ⟨rfl, ⟨nd, rfl⟩⟩; (try first | exact ⟨rfl, _, World.drewN_drewN _ _ _⟩ | exact ⟨rfl, _, Eq.trans (World.drewN_drewN _ _ _) (congrArg (World.drewN _) (Nat.add_assoc _ _ _))⟩))); try go_wp2_with (first | (go_at_call 82; (with_reducible refine (verditerref06_within.calls (l0.length : Int) 1 13 true _ A2.out).mono ?_); rintro e w' ⟨rfl, ⟨nd, rfl⟩⟩; (try first | exact ⟨rfl, _, World.drewN_drewN _ _ _⟩ | exact ⟨rfl, _, Eq.trans (World.drewN_drewN _ _ _) (congrArg (World.drewN _) (Nat.add_assoc _ _ _))⟩))))
    go_loopg [4] k (fun kq v4 w' => ∃ (x4_1 : Int), v4 = .int .i64 x4_1 ∧ Aside0 (verditerref06_FromMarks.l0 kq l0 x4_1 = some (r1, r2)) ∧ Aside0 (kq ≤ k) ∧ Aside0 (Below w.heap.size w w'))
    case atStart => exact ⟨(0), (by first | rfl | (simp; done) | (simp [*]; done)), H', ⟨Nat.le_refl _⟩, ⟨by repeat (first | (with_reducible first | exact HB.out | apply below_alloc | apply pw_below_drewN | apply below_drew1) | exact HB.out)⟩⟩
    case round =>
      clear H'
      try clear p2
      try clear c3
      obtain ⟨x4_1, rfl, HA, HK1, HB⟩ := hrel
      cases gk with
      | zero => exact absurd HA.out (by simp [verditerref06_FromMarks.l0])
      | succ k1 =>
        have H := HA.out
        clear HA
        simp only [verditerref06_FromMarks.l0] at H
        by_cases c4 : x4_1 < (l0.length : Int)
        · rw [if_pos c4] at H
          have c4b0 : decide (x4_1 < (l0.length : Int)) = true := decide_eq_true c4
          clear c4
          by_cases c5 : 0 ≤ x4_1
          · rw [if_pos c5] at H
            have c5b0 : decide (0 ≤ x4_1) = true := decide_eq_true c5
            clear c5
            by_cases c6 : ((rd_L5 l0 x4_1).length : Int) > 3
            · rw [if_pos c6] at H
              have c6b0 : decide (3 < ((rd_L5 l0 x4_1).length : Int)) = true := decide_eq_true c6
              have c6b1 : decide (3 < (rd_L5 l0 x4_1).length) = true := decide_eq_true (by omega)
              clear c6
              simp only [Option.some.injEq, Prod.mk.injEq] at H
              obtain ⟨rfl, rfl⟩ := H
              have p526 : 0 ≤ (x4_1 : Int) := of_decide_eq_true (by first | (with_reducible assumption) | assumption)
              have q526 : x4_1 < (l0.length : Int) := of_decide_eq_true (by first | (with_reducible assumption) | assumption)
              obtain ⟨ad526, A526_0, c526_0, e526, hx526_0, hl526_0, hi526_0⟩ := at_L5 HR0.out x4_1 p526 q526
              cases e526
              replace hx526_0 := (HB.out.cell (World.block_lt_of_cell? w _ hx526_0)).trans hx526_0
              have HR526_0 := Aside0.mk hi526_0
              have HC526_0 := Aside0.mk hl526_0
              clear hi526_0 hl526_0
              replace p526 := eq_true p526
              replace q526 := eq_true q526
              go_wp2
              repeat (go_quiet (fail); try go_wp2)
              go_ret2
              exact ⟨_, by first | rfl | (simp [errW_none, errW_some] <;> rfl) | (simp [*, errW_none, errW_some] <;> rfl), by first | exact Kd.S_nil _ _ _ _ _ | exact Kd.N_nil _ _ _ _ _ | exact Kd.V_nil _ _ _ _ _ | exact Kd.Q_nil _ _ _ _ _ | exact Kd.R_nil _ _ _ _ _, by repeat (first | (with_reducible first | exact HB.out | apply below_alloc | apply pw_below_drewN | apply below_drew1) | exact HB.out)⟩
            · rw [if_neg c6] at H
              have c6b0 : decide (3 < ((rd_L5 l0 x4_1).length : Int)) = false := decide_eq_false c6
              have c6b1 : decide (3 < (rd_L5 l0 x4_1).length) = false := decide_eq_false (by omega)
              clear c6
              have H' := Aside0.mk H
              clear H
              have p526 : 0 ≤ (x4_1 : Int) := of_decide_eq_true (by first | (with_reducible assumption) | assumption)
              have q526 : x4_1 < (l0.length : Int) := of_decide_eq_true (by first | (with_reducible assumption) | assumption)
              obtain ⟨ad526, A526_0, c526_0, e526, hx526_0, hl526_0, hi526_0⟩ := at_L5 HR0.out x4_1 p526 q526
              cases e526
              replace hx526_0 := (HB.out.cell (World.block_lt_of_cell? w _ hx526_0)).trans hx526_0
              have HR526_0 := Aside0.mk hi526_0
              have HC526_0 := Aside0.mk hl526_0
              clear hi526_0 hl526_0
              replace p526 := eq_true p526
              replace q526 := eq_true q526
              go_wp2
              repeat (go_quiet (fail); try go_wp2)
              go_roundg k1
              case measure => have := HK1.out; omega
              case rel => exact ⟨(wrap64 (x4_1 + 1)), (by first | rfl | (simp; done) | (simp [*]; done)), H', ⟨by have := HK1.out; omega⟩, ⟨by repeat (first | (with_reducible first | exact HB.out | apply below_alloc | apply pw_below_drewN | apply below_drew1) | exact HB.out)⟩⟩
          · rw [if_neg c5] at H
            exact absurd H (by simp)
        · rw [if_neg c4] at H
          have c4b0 : decide (x4_1 < (l0.length : Int)) = false := decide_eq_false c4
          clear c4
          have H' := Aside0.mk H
          clear H
          go_wp2
          repeat (go_quiet (fail); try go_wp2)
          go_loopg [5] k1 (fun kq v5 w' => ∃ (x5_2 : Int), v5 = .int .i64 x5_2 ∧ Aside0 (verditerref06_FromMarks.l1 kq l0 x5_2 = some (r1, r2)) ∧ Aside0 (kq ≤ k1) ∧ Aside0 (Below w.heap.size w w'))
          case atStart => exact ⟨(0), (by first | rfl | (simp; done) | (simp [*]; done)), H', ⟨Nat.le_refl _⟩, ⟨by repeat (first | (with_reducible first | exact HB.out | apply below_alloc | apply pw_below_drewN | apply below_drew1) | exact HB.out)⟩⟩
          case round =>
            clear H'
            try clear p2
            try clear c3
            try clear c4
            try clear c4b0
            try clear c5
            try clear c5b0
            try clear p5
            try clear q5
            try clear hx5
            try clear c6
            try clear c6b0
            try clear c6b1
            try clear p6
            try clear hx526_0
            try clear p2
            try clear p526
            try clear q526
            obtain ⟨x5_2, rfl, HA, HK2, HB⟩ := hrel
            cases gk with
            | zero => exact absurd HA.out (by simp [verditerref06_FromMarks.l1])
            | succ k2 =>
              have H := HA.out
              clear HA
              simp only [verditerref06_FromMarks.l1] at H
              by_cases c7 : x5_2 < (l0.length : Int)
              · rw [if_pos c7] at H
                have c7b0 : decide (x5_2 < (l0.length : Int)) = true := decide_eq_true c7
                clear c7
                by_cases c8 : 0 ≤ x5_2
                · rw [if_pos c8] at H
                  have c8b0 : decide (0 ≤ x5_2) = true := decide_eq_true c8
                  clear c8
                  by_cases c9 : 0 < (l0.length : Int)
                  · rw [if_pos c9] at H
                    have c9b0 : decide (0 < (l0.length : Int)) = true := decide_eq_true c9
                    have c9b1 : decide (0 < l0.length) = true := decide_eq_true (by omega)
                    clear c9
                    by_cases c10 : ((rd_L5 l0 x5_2).length : Int) = ((rd_L5 l0 0).length : Int)
                    · rw [if_pos c10] at H
                      have c10b0 : (((rd_L5 l0 x5_2).length : Int) == ((rd_L5 l0 0).length : Int)) = true := beq_iff_eq.mpr c10
                      have c10b1 : (((rd_L5 l0 x5_2).length : Int) != ((rd_L5 l0 0).length : Int)) = false := bne_eq_false_iff_eq.mpr c10
                      have c10b2 : ((rd_L5 l0 x5_2).length == (rd_L5 l0 0).length) = true := by first | simpa using c10 | (simp at c10 ⊢; omega)
                      clear c10
                      have H' := Aside0.mk H
                      clear H
                      have p527 : 0 ≤ (x5_2 : Int) := of_decide_eq_true (by first | (with_reducible assumption) | assumption)
                      have q527 : x5_2 < (l0.length : Int) := of_decide_eq_true (by first | (with_reducible assumption) | assumption)
                      obtain ⟨ad527, A527_0, c527_0, e527, hx527_0, hl527_0, hi527_0⟩ := at_L5 HR0.out x5_2 p527 q527
                      cases e527
                      replace hx527_0 := (HB.out.cell (World.block_lt_of_cell? w _ hx527_0)).trans hx527_0
                      have HR527_0 := Aside0.mk hi527_0
                      have HC527_0 := Aside0.mk hl527_0
                      clear hi527_0 hl527_0
                      replace p527 := eq_true p527
                      replace q527 := eq_true q527
                      have p528 : 0 ≤ (0 : Int) := (by omega)
                      have q528 : 0 < (l0.length : Int) := of_decide_eq_true (by first | (with_reducible assumption) | assumption)
                      obtain ⟨ad528, A528_0, c528_0, e528, hx528_0, hl528_0, hi528_0⟩ := at_L5 HR0.out 0 p528 q528
                      obtain rfl : ad527 = ad528 := (by injection e528)
                      have qi528 : (0 < l0.length) = True := eq_true (by omega)
                      (try rw [show ((0 : Int)).toNat = 0 from rfl] at hx528_0)
                      (try rw [Addr.add_zero'] at hx528_0)
                      replace hx528_0 := (HB.out.cell (World.block_lt_of_cell? w _ hx528_0)).trans hx528_0
                      have HR528_0 := Aside0.mk hi528_0
                      have HC528_0 := Aside0.mk hl528_0
                      clear hi528_0 hl528_0
                      replace p528 := eq_true p528
                      replace q528 := eq_true q528
                      go_wp2
                      repeat (go_quiet (fail); try go_wp2)
                      go_loopg [6] k2 (fun kq v6 w' => ∃ (x6_3 : Int), v6 = .int .i64 x6_3 ∧ Aside0 (verditerref06_FromMarks.l2 kq l0 x5_2 x6_3 = some (r1, r2)) ∧ Aside0 (kq ≤ k2) ∧ Aside0 (Below w.heap.size w w'))
                      case atStart => exact ⟨(0), (by first | rfl | (simp; done) | (simp [*]; done)), H', ⟨Nat.le_refl _⟩, ⟨by repeat (first | (with_reducible first | exact HB.out | apply below_alloc | apply pw_below_drewN | apply below_drew1) | exact HB.out)⟩⟩
                      case round =>
                        clear H'
                        try clear c1
                        try clear p2
                        try clear c3
                        try clear c4
                        try clear c4b0
                        try clear c5
                        try clear c5b0
                        try clear p5
                        try clear q5
                        try clear hx5
                        try clear qi5
                        try clear c6
                        try clear c6b0
                        try clear c6b1
                        try clear p6
                        try clear c7
                        try clear c7b0
                        try clear c8
                        try clear c8b0
                        try clear c9
                        try clear c9b0
                        try clear c9b1
                        try clear c10
                        try clear c10b0
                        try clear c10b1
                        try clear c10b2
                        try clear hx526_0
                        try clear hx527_0
                        try clear hx528_0
                        try clear p2
                        try clear p5
                        try clear p526
                        try clear p527
                        try clear p528
                        try clear p6
                        try clear q5
                        try clear q526
                        try clear q527
                        try clear q528
                        obtain ⟨x6_3, rfl, HA, HK3, HB⟩ := hrel
                        cases gk with
                        | zero => exact absurd HA.out (by simp [verditerref06_FromMarks.l2])
                        | succ k3 =>
                          have H := HA.out
                          clear HA
                          simp only [verditerref06_FromMarks.l2] at H
                          by_cases c11 : 0 ≤ x5_2
                          · rw [if_pos c11] at H
                            have c11b0 : decide (0 ≤ x5_2) = true := decide_eq_true c11
                            clear c11
                            by_cases c12 : x5_2 < (l0.length : Int)
                            · rw [if_pos c12] at H
                              have c12b0 : decide (x5_2 < (l0.length : Int)) = true := decide_eq_true c12
                              clear c12
                              by_cases c13 : x6_3 < ((rd_L5 l0 x5_2).length : Int)
                              · rw [if_pos c13] at H
                                have c13b0 : decide (x6_3 < ((rd_L5 l0 x5_2).length : Int)) = true := decide_eq_true c13
                                clear c13
                                by_cases c14 : 0 ≤ x6_3
                                · rw [if_pos c14] at H
                                  have c14b0 : decide (0 ≤ x6_3) = true := decide_eq_true c14
                                  clear c14
                                  replace H := Option.bind_eq_some_iff.mp H
                                  obtain ⟨t532, A150, H⟩ := H
                                  replace H : (if t532 = true then (verditerref06_FromMarks.l2 k3 l0 x5_2 (wrap64 (x6_3 + 1))) else (some (([] : List (S53)), 1))) = some (r1, r2) := H
                                  have A15 := Aside0.mk A150
                                  clear A150
                                  by_cases c16 : t532 = true
                                  · subst c16
                                    have H1 : (verditerref06_FromMarks.l2 k3 l0 x5_2 (wrap64 (x6_3 + 1))) = some (r1, r2) := by rw [if_pos rfl] at H; exact H
                                    clear H
                                    have H := H1
                                    clear H1
                                    have H' := Aside0.mk H
                                    clear H
                                    have p529 : 0 ≤ (x5_2 : Int) := of_decide_eq_true (by first | (with_reducible assumption) | assumption)
                                    have q529 : x5_2 < (l0.length : Int) := of_decide_eq_true (by first | (with_reducible assumption) | assumption)
                                    obtain ⟨ad529, A529_0, c529_0, e529, hx529_0, hl529_0, hi529_0⟩ := at_L5 HR0.out x5_2 p529 q529
                                    obtain rfl : ad527 = ad529 := (by injection e529)
                                    replace hx529_0 := (HB.out.cell (World.block_lt_of_cell? w _ hx529_0)).trans hx529_0
                                    have HR529_0 := Aside0.mk hi529_0
                                    have HC529_0 := Aside0.mk hl529_0
                                    clear hi529_0 hl529_0
                                    replace p529 := eq_true p529
                                    replace q529 := eq_true q529
                                    have p530 : 0 ≤ (x5_2 : Int) := of_decide_eq_true (by first | (with_reducible assumption) | assumption)
                                    have q530 : x5_2 < (l0.length : Int) := of_decide_eq_true (by first | (with_reducible assumption) | assumption)
                                    obtain ⟨ad530, A530_0, c530_0, e530, hx530_0, hl530_0, hi530_0⟩ := at_L5 HR0.out x5_2 p530 q530
                                    obtain rfl : ad527 = ad530 := (by injection e530)
                                    replace hx530_0 := (HB.out.cell (World.block_lt_of_cell? w _ hx530_0)).trans hx530_0
                                    have HR530_0 := Aside0.mk hi530_0
                                    have HC530_0 := Aside0.mk hl530_0
                                    clear hi530_0 hl530_0
                                    replace p530 := eq_true p530
                                    replace q530 := eq_true q530
                                    have ea_ := Option.some.inj (hx529_0.symm.trans hx530_0)
                                    injection ea_ with ea_ en_ ec_
                                    subst ea_
                                    subst ec_
                                    clear en_
                                    have p531 : 0 ≤ (x6_3 : Int) := of_decide_eq_true (by first | (with_reducible assumption) | assumption)
                                    have q531 : x6_3 < ((rd_L5 l0 x5_2).length : Int) := of_decide_eq_true (by first | (with_reducible assumption) | assumption)
                                    obtain ⟨ad531, e531, hx531_0⟩ := Kd.at_int HR530_0.out x6_3 p531 q531
                                    cases e531
                                    replace hx531_0 := (HB.out.cell (World.block_lt_of_cell? w _ hx531_0)).trans hx531_0
                                    replace p531 := eq_true p531
                                    replace q531 := eq_true q531
                                    go_wp2_with (first | (go_at_call 82; (with_reducible refine (verditerref06_within.calls (rd (rd_L5 l0 x5_2) x6_3) (-1) 1 true _ A15.out).mono ?_); rintro e w' ⟨rfl, ⟨nd, rfl⟩⟩; (try first | exact ⟨rfl, _, World.drewN_drewN _ _ _⟩ | exact ⟨rfl, _, Eq.trans (World.drewN_drewN _ _ _) (congrArg (World.drewN _) (Nat.add_assoc _ _ _))⟩)))
                                    repeat (go_quiet (first | (go_at_call 82; (with_reducible refine (verditerref06_within.calls (rd (rd_L5 l0 x5_2) x6_3) (-1) 1 true _ A15.out).mono ?_); rintro e w' ⟨rfl, ⟨nd, rfl⟩⟩; (try first | exact ⟨rfl, _, World.drewN_drewN _ _ _⟩ | exact ⟨rfl, _, Eq.trans (World.drewN_drewN _ _ _) (congrArg (World.drewN _) (Nat.add_assoc _ _ _))⟩))); try go_wp2_with (first | (go_at_call 82; (with_reducible refine (verditerref06_within.calls (rd (rd_L5 l0 x5_2) x6_3) (-1) 1 true _ A15.out).mono ?_); rintro e w' ⟨rfl, ⟨nd, rfl⟩⟩; (try first | exact ⟨rfl, _, World.drewN_drewN _ _ _⟩ | exact ⟨rfl, _, Eq.trans (World.drewN_drewN _ _ _) (congrArg (World.drewN _) (Nat.add_assoc _ _ _))⟩))))
                                    go_roundg k3
                                    case measure => have := HK1.out; have := HK2.out; have := HK3.out; omega
                                    case rel => exact ⟨(wrap64 (x6_3 + 1)), (by first | rfl | (simp; done) | (simp [*]; done)), H', ⟨by have := HK1.out; have := HK2.out; have := HK3.out; omega⟩, ⟨by repeat (first | (with_reducible first | exact HB.out | apply below_alloc | apply pw_below_drewN | apply below_drew1) | exact HB.out)⟩⟩
                                  · replace c16 := Bool.eq_false_iff.mpr c16
                                    subst c16
                                    have H1 : (some (([] : List (S53)), 1)) = some (r1, r2) := by rw [if_neg (show ¬ (false = true) by decide)] at H; exact H
                                    clear H
                                    have H := H1
                                    clear H1
                                    simp only [Option.some.injEq, Prod.mk.injEq] at H
                                    obtain ⟨rfl, rfl⟩ := H
                                    have p529 : 0 ≤ (x5_2 : Int) := of_decide_eq_true (by first | (with_reducible assumption) | assumption)
                                    have q529 : x5_2 < (l0.length : Int) := of_decide_eq_true (by first | (with_reducible assumption) | assumption)
                                    obtain ⟨ad529, A529_0, c529_0, e529, hx529_0, hl529_0, hi529_0⟩ := at_L5 HR0.out x5_2 p529 q529
                                    obtain rfl : ad527 = ad529 := (by injection e529)
                                    replace hx529_0 := (HB.out.cell (World.block_lt_of_cell? w _ hx529_0)).trans hx529_0
                                    have HR529_0 := Aside0.mk hi529_0
                                    have HC529_0 := Aside0.mk hl529_0
                                    clear hi529_0 hl529_0
                                    replace p529 := eq_true p529
                                    replace q529 := eq_true q529
                                    have p530 : 0 ≤ (x5_2 : Int) := of_decide_eq_true (by first | (with_reducible assumption) | assumption)
                                    have q530 : x5_2 < (l0.length : Int) := of_decide_eq_true (by first | (with_reducible assumption) | assumption)
                                    obtain ⟨ad530, A530_0, c530_0, e530, hx530_0, hl530_0, hi530_0⟩ := at_L5 HR0.out x5_2 p530 q530
                                    obtain rfl : ad527 = ad530 := (by injection e530)
                                    replace hx530_0 := (HB.out.cell (World.block_lt_of_cell? w _ hx530_0)).trans hx530_0
                                    have HR530_0 := Aside0.mk hi530_0
                                    have HC530_0 := Aside0.mk hl530_0
                                    clear hi530_0 hl530_0
                                    replace p530 := eq_true p530
                                    replace q530 := eq_true q530
                                    have ea_ := Option.some.inj (hx529_0.symm.trans hx530_0)
                                    injection ea_ with ea_ en_ ec_
                                    subst ea_
                                    subst ec_
                                    clear en_
                                    have p531 : 0 ≤ (x6_3 : Int) := of_decide_eq_true (by first | (with_reducible assumption) | assumption)
                                    have q531 : x6_3 < ((rd_L5 l0 x5_2).length : Int) := of_decide_eq_true (by first | (with_reducible assumption) | assumption)
                                    obtain ⟨ad531, e531, hx531_0⟩ := Kd.at_int HR530_0.out x6_3 p531 q531
                                    cases e531
                                    replace hx531_0 := (HB.out.cell (World.block_lt_of_cell? w _ hx531_0)).trans hx531_0
                                    replace p531 := eq_true p531
                                    replace q531 := eq_true q531
                                    go_wp2_with (first | (go_at_call 82; (with_reducible refine (verditerref06_within.calls (rd (rd_L5 l0 x5_2) x6_3) (-1) 1 false _ A15.out).mono ?_); rintro e w' ⟨rfl, ⟨nd, rfl⟩⟩; (try first | exact ⟨rfl, _, World.drewN_drewN _ _ _⟩ | exact ⟨rfl, _, Eq.trans (World.drewN_drewN _ _ _) (congrArg (World.drewN _) (Nat.add_assoc _ _ _))⟩)))
                                    repeat (go_quiet (first | (go_at_call 82; (with_reducible refine (verditerref06_within.calls (rd (rd_L5 l0 x5_2) x6_3) (-1) 1 false _ A15.out).mono ?_); rintro e w' ⟨rfl, ⟨nd, rfl⟩⟩; (try first | exact ⟨rfl, _, World.drewN_drewN _ _ _⟩ | exact ⟨rfl, _, Eq.trans (World.drewN_drewN _ _ _) (congrArg (World.drewN _) (Nat.add_assoc _ _ _))⟩))); try go_wp2_with (first | (go_at_call 82; (with_reducible refine (verditerref06_within.calls (rd (rd_L5 l0 x5_2) x6_3) (-1) 1 false _ A15.out).mono ?_); rintro e w' ⟨rfl, ⟨nd, rfl⟩⟩; (try first | exact ⟨rfl, _, World.drewN_drewN _ _ _⟩ | exact ⟨rfl, _, Eq.trans (World.drewN_drewN _ _ _) (congrArg (World.drewN _) (Nat.add_assoc _ _ _))⟩))))
                                    go_ret2
                                    exact ⟨_, by first | rfl | (simp [errW_none, errW_some] <;> rfl) | (simp [*, errW_none, errW_some] <;> rfl), by first | exact Kd.S_nil _ _ _ _ _ | exact Kd.N_nil _ _ _ _ _ | exact Kd.V_nil _ _ _ _ _ | exact Kd.Q_nil _ _ _ _ _ | exact Kd.R_nil _ _ _ _ _, by repeat (first | (with_reducible first | exact HB.out | apply below_alloc | apply pw_below_drewN | apply below_drew1) | exact HB.out)⟩
                                · rw [if_neg c14] at H
                                  exact absurd H (by simp)
                              · rw [if_neg c13] at H
                                have c13b0 : decide (x6_3 < ((rd_L5 l0 x5_2).length : Int)) = false := decide_eq_false c13
                                clear c13
                                have H' := Aside0.mk H
                                clear H
                                have p529 : 0 ≤ (x5_2 : Int) := of_decide_eq_true (by first | (with_reducible assumption) | assumption)
                                have q529 : x5_2 < (l0.length : Int) := of_decide_eq_true (by first | (with_reducible assumption) | assumption)
                                obtain ⟨ad529, A529_0, c529_0, e529, hx529_0, hl529_0, hi529_0⟩ := at_L5 HR0.out x5_2 p529 q529
                                obtain rfl : ad527 = ad529 := (by injection e529)
                                replace hx529_0 := (HB.out.cell (World.block_lt_of_cell? w _ hx529_0)).trans hx529_0
                                have HR529_0 := Aside0.mk hi529_0
                                have HC529_0 := Aside0.mk hl529_0
                                clear hi529_0 hl529_0
                                replace p529 := eq_true p529
                                replace q529 := eq_true q529
                                go_wp2
                                repeat (go_quiet (fail); try go_wp2)
                                go_roundg k3
                                case measure => have := HK1.out; have := HK2.out; have := HK3.out; omega
                                case rel => exact ⟨(wrap64 (x5_2 + 1)), (by first | rfl | (simp; done) | (simp [*]; done)), H', ⟨by have := HK1.out; have := HK2.out; have := HK3.out; omega⟩, ⟨by repeat (first | (with_reducible first | exact HB.out | apply below_alloc | apply pw_below_drewN | apply below_drew1) | exact HB.out)⟩⟩
                            · rw [if_neg c12] at H
                              exact absurd H (by simp)
                          · rw [if_neg c11] at H
                            exact absurd H (by simp)
                    · rw [if_neg c10] at H
                      have c10b0 : (((rd_L5 l0 x5_2).length : Int) == ((rd_L5 l0 0).length : Int)) = false := beq_eq_false_iff_ne.mpr c10
                      have c10b1 : (((rd_L5 l0 x5_2).length : Int) != ((rd_L5 l0 0).length : Int)) = true := bne_iff_ne.mpr c10
                      have c10b2 : ((rd_L5 l0 x5_2).length == (rd_L5 l0 0).length) = false := by first | simpa using c10 | (simp at c10 ⊢; omega)
                      simp only [Option.some.injEq, Prod.mk.injEq] at H
                      obtain ⟨rfl, rfl⟩ := H
                      have p527 : 0 ≤ (x5_2 : Int) := of_decide_eq_true (by first | (with_reducible assumption) | assumption)
                      have q527 : x5_2 < (l0.length : Int) := of_decide_eq_true (by first | (with_reducible assumption) | assumption)
                      obtain ⟨ad527, A527_0, c527_0, e527, hx527_0, hl527_0, hi527_0⟩ := at_L5 HR0.out x5_2 p527 q527
                      cases e527
                      replace hx527_0 := (HB.out.cell (World.block_lt_of_cell? w _ hx527_0)).trans hx527_0
                      have HR527_0 := Aside0.mk hi527_0
                      have HC527_0 := Aside0.mk hl527_0
                      clear hi527_0 hl527_0
                      replace p527 := eq_true p527
                      replace q527 := eq_true q527
                      have p528 : 0 ≤ (0 : Int) := (by omega)
                      have q528 : 0 < (l0.length : Int) := of_decide_eq_true (by first | (with_reducible assumption) | assumption)
                      obtain ⟨ad528, A528_0, c528_0, e528, hx528_0, hl528_0, hi528_0⟩ := at_L5 HR0.out 0 p528 q528
                      obtain rfl : ad527 = ad528 := (by injection e528)
                      have qi528 : (0 < l0.length) = True := eq_true (by omega)
                      (try rw [show ((0 : Int)).toNat = 0 from rfl] at hx528_0)
                      (try rw [Addr.add_zero'] at hx528_0)
                      replace hx528_0 := (HB.out.cell (World.block_lt_of_cell? w _ hx528_0)).trans hx528_0
                      have HR528_0 := Aside0.mk hi528_0
                      have HC528_0 := Aside0.mk hl528_0
                      clear hi528_0 hl528_0
                      replace p528 := eq_true p528
                      replace q528 := eq_true q528
                      go_wp2
                      repeat (go_quiet (fail); try go_wp2)
                      go_ret2
                      exact ⟨_, by first | rfl | (simp [errW_none, errW_some] <;> rfl) | (simp [*, errW_none, errW_some] <;> rfl), by first | exact Kd.S_nil _ _ _ _ _ | exact Kd.N_nil _ _ _ _ _ | exact Kd.V_nil _ _ _ _ _ | exact Kd.Q_nil _ _ _ _ _ | exact Kd.R_nil _ _ _ _ _, by repeat (first | (with_reducible first | exact HB.out | apply below_alloc | apply pw_below_drewN | apply below_drew1) | exact HB.out)⟩
                  · rw [if_neg c9] at H
                    exact absurd H (by simp)
                · rw [if_neg c8] at H
                  exact absurd H (by simp)
              · rw [if_neg c7] at H
                have c7b0 : decide (x5_2 < (l0.length : Int)) = false := decide_eq_false c7
                clear c7
                have H' := Aside0.mk H
                clear H
                go_wp2
                repeat (go_quiet (fail); try go_wp2)
                go_loopg [7, 8] k2 (fun kq v7 v8 w' => ∃ (x7_3 : List (S53)) (x8_3 : Int), v8 = .int .i64 x8_3 ∧ Aside0 (verditerref06_FromMarks.l3 kq l0 x7_3 x8_3 = some (r1, r2)) ∧ Aside0 (kq ≤ k2) ∧ Aside0 (Kd.S k53 53 w' w.heap.size (fun _ => True) v7 x7_3) ∧ Aside0 (Below w.heap.size w w'))
                case atStart => exact ⟨(([] : List (S53))), (0), (by first | rfl | (simp; done) | (simp [*]; done)), H', ⟨Nat.le_refl _⟩, ⟨by first | exact Kd.S_nil _ _ _ _ _ | exact Kd.N_nil _ _ _ _ _ | exact Kd.V_nil _ _ _ _ _ | exact Kd.Q_nil _ _ _ _ _ | exact Kd.R_nil _ _ _ _ _⟩, ⟨by repeat (first | (with_reducible first | exact HB.out | apply below_alloc | apply pw_below_drewN | apply below_drew1) | exact HB.out)⟩⟩
                case round =>
                  clear H'
                  try clear c1
                  try clear p2
                  try clear c3
                  try clear c4
                  try clear c4b0
                  try clear c5
                  try clear c5b0
                  try clear p5
                  try clear q5
                  try clear hx5
                  try clear qi5
                  try clear c6
                  try clear c6b0
                  try clear c6b1
                  try clear p6
                  try clear c7
                  try clear c7b0
                  try clear c8
                  try clear c8b0
                  try clear c9
                  try clear c9b0
                  try clear c9b1
                  try clear c10
                  try clear c10b0
                  try clear c10b1
                  try clear c10b2
                  try clear c11
                  try clear c11b0
                  try clear c12
                  try clear c12b0
                  try clear c13
                  try clear c13b0
                  try clear c14
                  try clear c14b0
                  try clear c16
                  try clear hx526_0
                  try clear hx527_0
                  try clear hx528_0
                  try clear hx529_0
                  try clear hx530_0
                  try clear hx531_0
                  try clear p2
                  try clear p5
                  try clear p526
                  try clear p527
                  try clear p528
                  try clear p529
                  try clear p530
                  try clear p531
                  try clear p6
                  try clear q5
                  try clear q526
                  try clear q527
                  try clear q528
                  try clear q529
                  try clear q530
                  try clear q531
                  obtain ⟨x7_3, x8_3, rfl, HA, HK3, HO_7, HB⟩ := hrel
                  cases gk with
                  | zero => exact absurd HA.out (by simp [verditerref06_FromMarks.l3])
                  | succ k3 =>
                    have H := HA.out
                    clear HA
                    simp only [verditerref06_FromMarks.l3] at H
                    by_cases c17 : 0 < (l0.length : Int)
                    · rw [if_pos c17] at H
                      have c17b0 : decide (0 < (l0.length : Int)) = true := decide_eq_true c17
                      have c17b1 : decide (0 < l0.length) = true := decide_eq_true (by omega)
                      clear c17
                      by_cases c18 : x8_3 < ((rd_L5 l0 0).length : Int)
                      · rw [if_pos c18] at H
                        have c18b0 : decide (x8_3 < ((rd_L5 l0 0).length : Int)) = true := decide_eq_true c18
                        clear c18
                        have H' := Aside0.mk H
                        clear H
                        have p533 : 0 ≤ (0 : Int) := (by omega)
                        have q533 : 0 < (l0.length : Int) := of_decide_eq_true (by first | (with_reducible assumption) | assumption)
                        obtain ⟨ad533, A533_0, c533_0, e533, hx533_0, hl533_0, hi533_0⟩ := at_L5 HR0.out 0 p533 q533
                        cases e533
                        have qi533 : (0 < l0.length) = True := eq_true (by omega)
                        (try rw [show ((0 : Int)).toNat = 0 from rfl] at hx533_0)
                        (try rw [Addr.add_zero'] at hx533_0)
                        replace hx533_0 := (HB.out.cell (World.block_lt_of_cell? w _ hx533_0)).trans hx533_0
                        have HR533_0 := Aside0.mk hi533_0
                        have HC533_0 := Aside0.mk hl533_0
                        clear hi533_0 hl533_0
                        replace p533 := eq_true p533
                        replace q533 := eq_true q533
                        go_wp2_with (first | ((with_reducible refine gate_dst (N := 9) rfl ?_); refine box_event ?hg (N := 9) ?hd (cs := #[.slice none 0 0, .slice none 0 0]) (t := 53) ?hr ?_; (case hd => rfl); (case hg => rfl); (case hr => first | (go_simp; done) | (go_simp; rfl)); intro gb534 hg w19 hbox hb; have n0_ := Aside0.mk (Kd.S_below (Kd.S_elderB (by (with_reducible repeat (first | apply Kd.S_alloc | apply Kd.S_drewN | apply Kd.S_drew)); exact HO_7.out) gb534 (Nat.le_of_eq hg.symm)) hb); have n1_ := Aside0.mk (below_step (by repeat (first | (with_reducible first | exact HB.out | apply below_alloc | apply pw_below_drewN | apply below_drew1) | exact HB.out)) hb); have n2_ := Aside0.mk (hbox); have n3_ := Aside0.mk ((by rw [hg]; exact (below_size (by repeat (first | (with_reducible first | exact HB.out | apply below_alloc | apply pw_below_drewN | apply below_drew1) | exact HB.out))) : w.heap.size ≤ gb534)); have n4_ := Aside0.mk ((by rw [hg]; exact (below_size (by repeat (first | (with_reducible first | exact HB.out | apply below_alloc | apply pw_below_drewN | apply below_drew1) | exact HB.out))) : w.heap.size ≤ gb534)); clear HO_7; clear HB; have HO_7 := n0_; have HB := n1_; have BK534 := n2_; have GW534 := n3_; have GE534 := n4_; clear n0_ n1_ n2_ n3_ n4_; clear hb hbox hg; have hcz20_0 : w19.cell? ⟨gb534, 0, none⟩ = some (.slice none 0 0) := (blk_cell BK534.out 0).trans rfl; have hcz20_1 : w19.cell? ⟨gb534, 1, none⟩ = some (.slice none 0 0) := (blk_cell BK534.out 1).trans rfl; have hfz20_0 := blk_frozen BK534.out 0; have hfz20_1 := blk_frozen BK534.out 1))
                        repeat (go_quiet (first | ((with_reducible refine gate_dst (N := 9) rfl ?_); refine box_event ?hg (N := 9) ?hd (cs := #[.slice none 0 0, .slice none 0 0]) (t := 53) ?hr ?_; (case hd => rfl); (case hg => rfl); (case hr => first | (go_simp; done) | (go_simp; rfl)); intro gb534 hg w19 hbox hb; have n0_ := Aside0.mk (Kd.S_below (Kd.S_elderB (by (with_reducible repeat (first | apply Kd.S_alloc | apply Kd.S_drewN | apply Kd.S_drew)); exact HO_7.out) gb534 (Nat.le_of_eq hg.symm)) hb); have n1_ := Aside0.mk (below_step (by repeat (first | (with_reducible first | exact HB.out | apply below_alloc | apply pw_below_drewN | apply below_drew1) | exact HB.out)) hb); have n2_ := Aside0.mk (hbox); have n3_ := Aside0.mk ((by rw [hg]; exact (below_size (by repeat (first | (with_reducible first | exact HB.out | apply below_alloc | apply pw_below_drewN | apply below_drew1) | exact HB.out))) : w.heap.size ≤ gb534)); have n4_ := Aside0.mk ((by rw [hg]; exact (below_size (by repeat (first | (with_reducible first | exact HB.out | apply below_alloc | apply pw_below_drewN | apply below_drew1) | exact HB.out))) : w.heap.size ≤ gb534)); clear HO_7; clear HB; have HO_7 := n0_; have HB := n1_; have BK534 := n2_; have GW534 := n3_; have GE534 := n4_; clear n0_ n1_ n2_ n3_ n4_; clear hb hbox hg; have hcz20_0 : w19.cell? ⟨gb534, 0, none⟩ = some (.slice none 0 0) := (blk_cell BK534.out 0).trans rfl; have hcz20_1 : w19.cell? ⟨gb534, 1, none⟩ = some (.slice none 0 0) := (blk_cell BK534.out 1).trans rfl; have hfz20_0 := blk_frozen BK534.out 0; have hfz20_1 := blk_frozen BK534.out 1)); try go_wp2_with (first | ((with_reducible refine gate_dst (N := 9) rfl ?_); refine box_event ?hg (N := 9) ?hd (cs := #[.slice none 0 0, .slice none 0 0]) (t := 53) ?hr ?_; (case hd => rfl); (case hg => rfl); (case hr => first | (go_simp; done) | (go_simp; rfl)); intro gb534 hg w19 hbox hb; have n0_ := Aside0.mk (Kd.S_below (Kd.S_elderB (by (with_reducible repeat (first | apply Kd.S_alloc | apply Kd.S_drewN | apply Kd.S_drew)); exact HO_7.out) gb534 (Nat.le_of_eq hg.symm)) hb); have n1_ := Aside0.mk (below_step (by repeat (first | (with_reducible first | exact HB.out | apply below_alloc | apply pw_below_drewN | apply below_drew1) | exact HB.out)) hb); have n2_ := Aside0.mk (hbox); have n3_ := Aside0.mk ((by rw [hg]; exact (below_size (by repeat (first | (with_reducible first | exact HB.out | apply below_alloc | apply pw_below_drewN | apply below_drew1) | exact HB.out))) : w.heap.size ≤ gb534)); have n4_ := Aside0.mk ((by rw [hg]; exact (below_size (by repeat (first | (with_reducible first | exact HB.out | apply below_alloc | apply pw_below_drewN | apply below_drew1) | exact HB.out))) : w.heap.size ≤ gb534)); clear HO_7; clear HB; have HO_7 := n0_; have HB := n1_; have BK534 := n2_; have GW534 := n3_; have GE534 := n4_; clear n0_ n1_ n2_ n3_ n4_; clear hb hbox hg; have hcz20_0 : w19.cell? ⟨gb534, 0, none⟩ = some (.slice none 0 0) := (blk_cell BK534.out 0).trans rfl; have hcz20_1 : w19.cell? ⟨gb534, 1, none⟩ = some (.slice none 0 0) := (blk_cell BK534.out 1).trans rfl; have hfz20_0 := blk_frozen BK534.out 0; have hfz20_1 := blk_frozen BK534.out 1)))
                        go_loopg [10, 11] k3 (fun kq v10 v11 w' => ∃ (x10_4 : Int) (x11_4 : Int) (x535000_4 : List Int) (x535001_4 : List Int) (u535000 : Value) (u535001 : Value), v10 = .int .i64 x10_4 ∧ v11 = .int .i64 x11_4 ∧ Aside0 (verditerref06_FromMarks.l4 kq l0 x7_3 x8_3 x10_4 x11_4 x535000_4 x535001_4 = some (r1, r2)) ∧ Aside0 (kq ≤ k3) ∧ Aside0 (Kd.S k53 53 w' w.heap.size (fun k_ => some k_ ≠ (u535000 : Value).ownBlock ∧ some k_ ≠ (u535001 : Value).ownBlock ∧ k_ ≠ gb534) u7 x7_3) ∧ Aside0 (Kd.R (Kd.int .i64) 3 w' w.heap.size (fun k_ => some k_ ≠ (u535001 : Value).ownBlock) u535000 x535000_4) ∧ Aside0 (Kd.R (Kd.int .i64) 3 w' w.heap.size (fun k_ => some k_ ≠ (u535000 : Value).ownBlock) u535001 x535001_4) ∧ Aside0 (w'.heap[gb534]? = some (.cells #[u535000, u535001] 53 (0, 0))) ∧ Aside0 (Below w.heap.size w w'))
                        case atStart => exact ⟨(0), (0), (([] : List Int)), (([] : List Int)), (.slice none 0 0), (.slice none 0 0), (by first | rfl | (simp; done) | (simp [*]; done)), (by first | rfl | (simp; done) | (simp [*]; done)), H', ⟨Nat.le_refl _⟩, ⟨by (with_reducible repeat (first | apply Kd.S_alloc | apply Kd.S_drewN | apply Kd.S_drew)); exact Kd.S_mono (Kd.S_far (p := ⟨gb534, 1, none⟩) (Kd.S_far (p := ⟨gb534, 0, none⟩) (Kd.S_mono HO_7.out (fun k_ hk => (⟨hk, hk.2⟩ : _ ∧ k_ ≠ gb534))) (fun _ hk => hk.2) (.slice none 0 0)) (fun _ hk => hk.2) (.slice none 0 0)) (fun _ hk => ⟨(by simp [Value.ownBlock]), ⟨(by simp [Value.ownBlock]), hk.1.2⟩⟩)⟩, ⟨by first | exact Kd.R_nil _ _ _ _ _ | exact Kd.N_nil _ _ _ _ _ | exact Kd.V_nil _ _ _ _ _ | exact Kd.Q_nil _ _ _ _ _ | exact Kd.S_nil _ _ _ _ _⟩, ⟨by first | exact Kd.R_nil _ _ _ _ _ | exact Kd.N_nil _ _ _ _ _ | exact Kd.V_nil _ _ _ _ _ | exact Kd.Q_nil _ _ _ _ _ | exact Kd.S_nil _ _ _ _ _⟩, ⟨by (with_reducible repeat (first | refine blk_drewN ?_ _ | refine blk_drew ?_ | refine blk_alloc ?_ _)); refine blk_put (cs := #[.slice none 0 0, .slice none 0 0]) ?_ 1 _ rfl; (with_reducible repeat (first | refine blk_drewN ?_ _ | refine blk_drew ?_ | refine blk_alloc ?_ _)); refine blk_put (cs := #[.slice none 0 0, .slice none 0 0]) ?_ 0 _ rfl; (with_reducible repeat (first | refine blk_drewN ?_ _ | refine blk_drew ?_ | refine blk_alloc ?_ _)); exact BK534.out⟩, ⟨by repeat (first | (with_reducible first | exact HB.out | apply below_alloc | apply pw_below_drewN | apply below_drew1 | refine below_set ?_ GE534.out) | exact HB.out)⟩⟩
                        case round =>
                          clear H'
                          try clear c1
                          try clear p2
                          try clear c3
                          try clear c4
                          try clear c4b0
                          try clear c5
                          try clear c5b0
                          try clear p5
                          try clear q5
                          try clear hx5
                          try clear qi5
                          try clear c6
                          try clear c6b0
                          try clear c6b1
                          try clear p6
                          try clear c7
                          try clear c7b0
                          try clear c8
                          try clear c8b0
                          try clear c9
                          try clear c9b0
                          try clear c9b1
                          try clear c10
                          try clear c10b0
                          try clear c10b1
                          try clear c10b2
                          try clear c11
                          try clear c11b0
                          try clear c12
                          try clear c12b0
                          try clear c13
                          try clear c13b0
                          try clear c14
                          try clear c14b0
                          try clear c16
                          try clear c17
                          try clear c17b0
                          try clear c17b1
                          try clear c18
                          try clear c18b0
                          try clear hcz20_0
                          try clear hcz20_1
                          try clear hfz20_0
                          try clear hfz20_1
                          try clear hx526_0
                          try clear hx527_0
                          try clear hx528_0
                          try clear hx529_0
                          try clear hx530_0
                          try clear hx531_0
                          try clear hx533_0
                          try clear p2
                          try clear p5
                          try clear p526
                          try clear p527
                          try clear p528
                          try clear p529
                          try clear p530
                          try clear p531
                          try clear p533
                          try clear p6
                          try clear q5
                          try clear q526
                          try clear q527
                          try clear q528
                          try clear q529
                          try clear q530
                          try clear q531
                          try clear q533
                          obtain ⟨x10_4, x11_4, x535000_4, x535001_4, u535000, u535001, rfl, rfl, HA, HK4, HO_7, HO_535000, HO_535001, BK534, HB⟩ := hrel
                          cases gk with
                          | zero => exact absurd HA.out (by simp [verditerref06_FromMarks.l4])
                          | succ k4 =>
                            have H := HA.out
                            clear HA
                            simp only [verditerref06_FromMarks.l4] at H
                            by_cases c21 : x11_4 < (l0.length : Int)
                            · rw [if_pos c21] at H
                              have c21b0 : decide (x11_4 < (l0.length : Int)) = true := decide_eq_true c21
                              clear c21
                              by_cases c22 : 0 ≤ x11_4
                              · rw [if_pos c22] at H
                                have c22b0 : decide (0 ≤ x11_4) = true := decide_eq_true c22
                                clear c22
                                by_cases c23 : 0 ≤ x8_3
                                · rw [if_pos c23] at H
                                  have c23b0 : decide (0 ≤ x8_3) = true := decide_eq_true c23
                                  clear c23
                                  by_cases c24 : x8_3 < ((rd_L5 l0 x11_4).length : Int)
                                  · rw [if_pos c24] at H
                                    have c24b0 : decide (x8_3 < ((rd_L5 l0 x11_4).length : Int)) = true := decide_eq_true c24
                                    clear c24
                                    by_cases c25 : (rd (rd_L5 l0 x11_4) x8_3) = 1
                                    · rw [if_pos c25] at H
                                      have c25b0 : ((rd (rd_L5 l0 x11_4) x8_3) == 1) = true := beq_iff_eq.mpr c25
                                      have c25b1 : ((rd (rd_L5 l0 x11_4) x8_3) != 1) = false := bne_eq_false_iff_eq.mpr c25
                                      clear c25
                                      by_cases c26 : x535000_4.length < 17592186044416
                                      · rw [if_pos c26] at H
                                        have LMc26 := Aside0.mk c26
                                        clear c26
                                        obtain ⟨y542, hy542⟩ : ∃ y_ : List Int, y_ = (x535000_4 ++ [x11_4]) := ⟨_, rfl⟩
                                        replace H : (if (rd (rd_L5 l0 x11_4) x8_3) = (-1) then (if x535001_4.length < 17592186044416 then (verditerref06_FromMarks.l4 k4 l0 x7_3 x8_3 (wrap64 (x10_4 + (rd (rd_L5 l0 x11_4) x8_3))) (wrap64 (x11_4 + 1)) y542 (x535001_4 ++ [x11_4])) else (none)) else (verditerref06_FromMarks.l4 k4 l0 x7_3 x8_3 (wrap64 (x10_4 + (rd (rd_L5 l0 x11_4) x8_3))) (wrap64 (x11_4 + 1)) y542 x535001_4)) = some (r1, r2) := by first | (rw [hy542]; with_reducible exact H) | (have H2_ := (Option.bind_some _ _).symm.trans H; rw [hy542]; with_reducible exact H2_) | (have H2_ := (Option.bind_some _ _).symm.trans H; with_reducible exact H2_) | with_reducible exact H | (rw [hy542]; exact H) | exact H
                                        have Ny542 := Aside0.mk hy542
                                        clear hy542
                                        by_cases c27 : (rd (rd_L5 l0 x11_4) x8_3) = (-1)
                                        · rw [if_pos c27] at H
                                          have c27b0 : ((rd (rd_L5 l0 x11_4) x8_3) == (-1)) = true := beq_iff_eq.mpr c27
                                          have c27b1 : ((rd (rd_L5 l0 x11_4) x8_3) != (-1)) = false := bne_eq_false_iff_eq.mpr c27
                                          clear c27
                                          by_cases c28 : x535001_4.length < 17592186044416
                                          · rw [if_pos c28] at H
                                            have LMc28 := Aside0.mk c28
                                            clear c28
                                            obtain ⟨y547, hy547⟩ : ∃ y_ : List Int, y_ = (x535001_4 ++ [x11_4]) := ⟨_, rfl⟩
                                            replace H : (verditerref06_FromMarks.l4 k4 l0 x7_3 x8_3 (wrap64 (x10_4 + (rd (rd_L5 l0 x11_4) x8_3))) (wrap64 (x11_4 + 1)) y542 y547) = some (r1, r2) := by first | (rw [hy547]; with_reducible exact H) | (have H2_ := (Option.bind_some _ _).symm.trans H; rw [hy547]; with_reducible exact H2_) | (have H2_ := (Option.bind_some _ _).symm.trans H; with_reducible exact H2_) | with_reducible exact H | (rw [hy547]; exact H) | exact H
                                            have Ny547 := Aside0.mk hy547
                                            clear hy547
                                            have H' := Aside0.mk H
                                            clear H
                                            have p538 : 0 ≤ (x11_4 : Int) := of_decide_eq_true (by first | (with_reducible assumption) | assumption)
                                            have q538 : x11_4 < (l0.length : Int) := of_decide_eq_true (by first | (with_reducible assumption) | assumption)
                                            obtain ⟨ad538, A538_0, c538_0, e538, hx538_0, hl538_0, hi538_0⟩ := at_L5 HR0.out x11_4 p538 q538
                                            obtain rfl : ad533 = ad538 := (by injection e538)
                                            replace hx538_0 := (HB.out.cell (World.block_lt_of_cell? w _ hx538_0)).trans hx538_0
                                            have HR538_0 := Aside0.mk hi538_0
                                            have HC538_0 := Aside0.mk hl538_0
                                            clear hi538_0 hl538_0
                                            replace p538 := eq_true p538
                                            replace q538 := eq_true q538
                                            have p539 : 0 ≤ (x8_3 : Int) := of_decide_eq_true (by first | (with_reducible assumption) | assumption)
                                            have q539 : x8_3 < ((rd_L5 l0 x11_4).length : Int) := of_decide_eq_true (by first | (with_reducible assumption) | assumption)
                                            obtain ⟨ad539, e539, hx539_0⟩ := Kd.at_int HR538_0.out x8_3 p539 q539
                                            cases e539
                                            replace hx539_0 := (HB.out.cell (World.block_lt_of_cell? w _ hx539_0)).trans hx539_0
                                            replace p539 := eq_true p539
                                            replace q539 := eq_true q539
                                            have p540 : 0 ≤ (x11_4 : Int) := of_decide_eq_true (by first | (with_reducible assumption) | assumption)
                                            have q540 : x11_4 < (l0.length : Int) := of_decide_eq_true (by first | (with_reducible assumption) | assumption)
                                            obtain ⟨ad540, A540_0, c540_0, e540, hx540_0, hl540_0, hi540_0⟩ := at_L5 HR0.out x11_4 p540 q540
                                            obtain rfl : ad533 = ad540 := (by injection e540)
                                            replace hx540_0 := (HB.out.cell (World.block_lt_of_cell? w _ hx540_0)).trans hx540_0
                                            have HR540_0 := Aside0.mk hi540_0
                                            have HC540_0 := Aside0.mk hl540_0
                                            clear hi540_0 hl540_0
                                            replace p540 := eq_true p540
                                            replace q540 := eq_true q540
                                            have ea_ := Option.some.inj (hx538_0.symm.trans hx540_0)
                                            injection ea_ with ea_ en_ ec_
                                            subst ea_
                                            subst ec_
                                            clear en_
                                            have p541 : 0 ≤ (x8_3 : Int) := of_decide_eq_true (by first | (with_reducible assumption) | assumption)
                                            have q541 : x8_3 < ((rd_L5 l0 x11_4).length : Int) := of_decide_eq_true (by first | (with_reducible assumption) | assumption)
                                            obtain ⟨ad541, e541, hx541_0⟩ := Kd.at_int HR540_0.out x8_3 p541 q541
                                            cases e541
                                            replace hx541_0 := (HB.out.cell (World.block_lt_of_cell? w _ hx541_0)).trans hx541_0
                                            replace p541 := eq_true p541
                                            replace q541 := eq_true q541
                                            have hcz29_0 : wr.cell? ⟨gb534, 0, none⟩ = some (u535000) := (blk_cell BK534.out 0).trans rfl
                                            have hcz29_1 : wr.cell? ⟨gb534, 1, none⟩ = some (u535001) := (blk_cell BK534.out 1).trans rfl
                                            have hfz29_0 := blk_frozen BK534.out 0
                                            have hfz29_1 := blk_frozen BK534.out 1
                                            go_wp2_with (first | ((with_reducible refine gate_builtin (b := .append) (xs := #[.tmp 95, .tmp 97]) rfl ?_); at_builtin; refine Kd.R_append (Kd.int .i64) (w0 := w) w.heap.size rfl (.tmp 95) (.tmp 97) 43 3 (.int .i64 0) 8 rfl Try.underlying43 info3 rfl (by decide) (by omega) u535000 x535000_4 x11_4 [.int .i64 x11_4] (fun k_ => some k_ ≠ (u535001 : Value).ownBlock) (fun _ => False) rfl rfl ?aP (fun _ hk => hk.elim) ?aF ?aO ?aB ?aS ?aL ?_; (case aP => exact rfl); (case aB => exact (by repeat (first | (with_reducible first | exact HB.out | apply below_alloc | apply pw_below_drewN | apply below_drew1 | refine below_set ?_ GE534.out) | exact HB.out))); (case aF => exact (fun k_ hk => Kd.fresh' (Kd.R_lt (by (with_reducible repeat (first | apply Kd.R_alloc | apply Kd.R_drewN | apply Kd.R_drew)); exact HO_535001.out)) k_ hk)); (case aO => exact (by (with_reducible repeat (first | apply Kd.R_alloc | apply Kd.R_drewN | apply Kd.R_drew)); exact HO_535000.out)); (case aS => exact (below_size (by repeat (first | (with_reducible first | exact HB.out | apply below_alloc | apply pw_below_drewN | apply below_drew1 | refine below_set ?_ GE534.out) | exact HB.out)))); (case aL => have := LMc26.out; omega); intro v543 w30 ho hb hg hat; rw [← Ny542.out] at ho; have n0_ := Aside0.mk (Kd.S_after (ok := (fun k_ => some k_ ≠ (u535001 : Value).ownBlock ∧ k_ ≠ gb534)) (by (with_reducible repeat (first | apply Kd.S_alloc | apply Kd.S_drewN | apply Kd.S_drew)); exact Kd.S_mono HO_7.out (fun _ hk => ⟨⟨hk.2.1, hk.2.2⟩, hk.1⟩)) hg hat); have n1_ := Aside0.mk (Kd.R_after (ok := (fun _ => True)) (by (with_reducible repeat (first | apply Kd.R_alloc | apply Kd.R_drewN | apply Kd.R_drew)); exact Kd.R_mono HO_535001.out (fun _ hk => ⟨trivial, hk⟩)) hg hat); have n2_ := Aside0.mk (blk_grown (g := gb534) (o := .cells #[u535000, u535001] 53 (0, 0)) (by (with_reducible repeat (first | refine blk_drewN ?_ _ | refine blk_drew ?_ | refine blk_alloc ?_ _)); exact BK534.out) hg (Kd.R_ne HO_535000.out BK534.out (by decide))); have n3_ := Aside0.mk (hb); have n4_ := Aside0.mk (ho); clear HO_7; clear HO_535001; clear BK534; clear HB; clear HO_535000; have HO_7 := n0_; have HO_535001 := n1_; have BK534 := n2_; have HB := n3_; have HO544 := n4_; clear n0_ n1_ n2_ n3_ n4_; clear ho hb hg hat; obtain ⟨Ao31, co31, eo31⟩ := Kd.R_slice HO544.out; subst eo31; have hcz32_0 : w30.cell? ⟨gb534, 0, none⟩ = some (u535000) := (blk_cell BK534.out 0).trans rfl; have hcz32_1 : w30.cell? ⟨gb534, 1, none⟩ = some (u535001) := (blk_cell BK534.out 1).trans rfl; have hfz32_0 := blk_frozen BK534.out 0; have hfz32_1 := blk_frozen BK534.out 1; have p545 : 0 ≤ (x11_4 : Int) := of_decide_eq_true (by first | (with_reducible assumption) | assumption); have q545 : x11_4 < (l0.length : Int) := of_decide_eq_true (by first | (with_reducible assumption) | assumption); obtain ⟨ad545, A545_0, c545_0, e545, hx545_0, hl545_0, hi545_0⟩ := at_L5 HR0.out x11_4 p545 q545; obtain rfl : ad533 = ad545 := (by injection e545); have hn545_0 : ad533.block ≠ gb534 := Nat.ne_of_lt (Nat.lt_of_lt_of_le (by have := World.block_lt_of_cell? _ _ hx545_0; first | rwa [add_block] at this | exact this) GW534.out); replace hx545_0 := (HB.out.cell (World.block_lt_of_cell? w _ hx545_0)).trans hx545_0; have HR545_0 := Aside0.mk hi545_0; have HC545_0 := Aside0.mk hl545_0; clear hi545_0 hl545_0; replace hx545_0 := (cell_far (p := ⟨gb534, 0, none⟩) (by first | (rw [add_block]; exact hn545_0) | (show (Addr.add _ _).block ≠ _; rw [add_block]; exact hn545_0) | exact hn545_0) (.slice Ao31 y542.length co31)).trans hx545_0; (try have hy545_0 := fun (n_ : Nat) => (show (((w30.drewN n_).setCell ⟨gb534, 0, none⟩ (.slice Ao31 y542.length co31))).cell? _ = some _ from hx545_0)); clear hn545_0; replace p545 := eq_true p545; replace q545 := eq_true q545; have p546 : 0 ≤ (x8_3 : Int) := of_decide_eq_true (by first | (with_reducible assumption) | assumption); have q546 : x8_3 < ((rd_L5 l0 x11_4).length : Int) := of_decide_eq_true (by first | (with_reducible assumption) | assumption); obtain ⟨ad546, e546, hx546_0⟩ := Kd.at_int HR545_0.out x8_3 p546 q546; cases e546; have hn546_0 : ad546.block ≠ gb534 := Nat.ne_of_lt (Nat.lt_of_lt_of_le (by have := World.block_lt_of_cell? _ _ hx546_0; first | rwa [add_block] at this | exact this) GW534.out); replace hx546_0 := (HB.out.cell (World.block_lt_of_cell? w _ hx546_0)).trans hx546_0; replace hx546_0 := (cell_far (p := ⟨gb534, 0, none⟩) (by first | (rw [add_block]; exact hn546_0) | (show (Addr.add _ _).block ≠ _; rw [add_block]; exact hn546_0) | exact hn546_0) (.slice Ao31 y542.length co31)).trans hx546_0; (try have hy546_0 := fun (n_ : Nat) => (show (((w30.drewN n_).setCell ⟨gb534, 0, none⟩ (.slice Ao31 y542.length co31))).cell? _ = some _ from hx546_0)); clear hn546_0; replace p546 := eq_true p546; replace q546 := eq_true q546) | ((with_reducible refine gate_builtin (b := .append) (xs := #[.tmp 109, .tmp 111]) rfl ?_); at_builtin; refine Kd.R_append (Kd.int .i64) (w0 := w) w.heap.size rfl (.tmp 109) (.tmp 111) 43 3 (.int .i64 0) 8 rfl Try.underlying43 info3 rfl (by decide) (by omega) u535001 x535001_4 x11_4 [.int .i64 x11_4] (fun k_ => some k_ ≠ (.slice Ao31 y542.length co31 : Value).ownBlock) (fun _ => False) rfl (by first | (go_simp; done) | (go_simp; rfl)) ?aP (fun _ hk => hk.elim) ?aF ?aO ?aB ?aS ?aL ?_; (case aP => exact rfl); (case aB => exact (by repeat (first | (with_reducible first | exact HB.out | apply below_alloc | apply pw_below_drewN | apply below_drew1 | refine below_set ?_ GE534.out) | exact HB.out))); (case aF => exact (fun k_ hk => Kd.fresh' (Kd.R_lt (by (with_reducible repeat (first | apply Kd.R_alloc | apply Kd.R_drewN | apply Kd.R_drew)); exact (Kd.R_mono (Kd.R_far (p := ⟨gb534, 0, none⟩) (Kd.R_types HO544.out BK534.out (by decide)) (fun _ hk => hk.2) (.slice Ao31 y542.length co31)) (fun _ h_ => h_.1)))) k_ hk)); (case aO => exact (by (with_reducible repeat (first | apply Kd.R_alloc | apply Kd.R_drewN | apply Kd.R_drew)); exact Kd.R_mono (Kd.R_far (p := ⟨gb534, 0, none⟩) (Kd.R_types HO_535001.out BK534.out (by decide)) (fun _ hk => hk.2) (.slice Ao31 y542.length co31)) (fun _ hk => hk.1.2))); (case aS => exact (below_size (by repeat (first | (with_reducible first | exact HB.out | apply below_alloc | apply pw_below_drewN | apply below_drew1 | refine below_set ?_ GE534.out) | exact HB.out)))); (case aL => have := LMc28.out; omega); intro v548 w33 ho hb hg hat; rw [← Ny547.out] at ho; have n0_ := Aside0.mk (Kd.S_after (ok := (fun k_ => some k_ ≠ (.slice Ao31 y542.length co31 : Value).ownBlock ∧ k_ ≠ gb534)) (by (with_reducible repeat (first | apply Kd.S_alloc | apply Kd.S_drewN | apply Kd.S_drew)); exact Kd.S_mono (Kd.S_far (p := ⟨gb534, 0, none⟩) (Kd.S_mono HO_7.out (fun k_ hk => (⟨hk, hk.1.2⟩ : _ ∧ k_ ≠ gb534))) (fun _ hk => hk.2) (.slice Ao31 y542.length co31)) (fun _ hk => ⟨⟨hk.1.2, hk.1.1.2⟩, hk.1.1.1⟩)) hg hat); have n1_ := Aside0.mk (blk_grown (g := gb534) (o := .cells #[.slice Ao31 y542.length co31, u535001] 53 (0, 0)) (by (with_reducible repeat (first | refine blk_drewN ?_ _ | refine blk_drew ?_ | refine blk_alloc ?_ _)); refine blk_put (cs := #[u535000, u535001]) ?_ 0 _ rfl; (with_reducible repeat (first | refine blk_drewN ?_ _ | refine blk_drew ?_ | refine blk_alloc ?_ _)); exact BK534.out) hg (Kd.R_ne HO_535001.out BK534.out (by decide))); have n2_ := Aside0.mk (Kd.R_after (ok := (fun _ => True)) (by (with_reducible repeat (first | apply Kd.R_alloc | apply Kd.R_drewN | apply Kd.R_drew)); exact Kd.R_mono (Kd.R_far (p := ⟨gb534, 0, none⟩) (Kd.R_types HO544.out BK534.out (by decide)) (fun _ hk => hk.2) (.slice Ao31 y542.length co31)) (fun _ hk => ⟨trivial, hk.1⟩)) hg hat); have n3_ := Aside0.mk (hb); have n4_ := Aside0.mk (ho); clear HO_7; clear BK534; clear HO544; clear HB; clear HO_535001; have HO_7 := n0_; have BK534 := n1_; have HO544 := n2_; have HB := n3_; have HO549 := n4_; clear n0_ n1_ n2_ n3_ n4_; clear ho hb hg hat; obtain ⟨Ao34, co34, eo34⟩ := Kd.R_slice HO549.out; subst eo34; have hcz35_0 : w33.cell? ⟨gb534, 0, none⟩ = some (.slice Ao31 y542.length co31) := (blk_cell BK534.out 0).trans rfl; have hcz35_1 : w33.cell? ⟨gb534, 1, none⟩ = some (u535001) := (blk_cell BK534.out 1).trans rfl; have hfz35_0 := blk_frozen BK534.out 0; have hfz35_1 := blk_frozen BK534.out 1))
                                            repeat (go_quiet (first | ((with_reducible refine gate_builtin (b := .append) (xs := #[.tmp 95, .tmp 97]) rfl ?_); at_builtin; refine Kd.R_append (Kd.int .i64) (w0 := w) w.heap.size rfl (.tmp 95) (.tmp 97) 43 3 (.int .i64 0) 8 rfl Try.underlying43 info3 rfl (by decide) (by omega) u535000 x535000_4 x11_4 [.int .i64 x11_4] (fun k_ => some k_ ≠ (u535001 : Value).ownBlock) (fun _ => False) rfl rfl ?aP (fun _ hk => hk.elim) ?aF ?aO ?aB ?aS ?aL ?_; (case aP => exact rfl); (case aB => exact (by repeat (first | (with_reducible first | exact HB.out | apply below_alloc | apply pw_below_drewN | apply below_drew1 | refine below_set ?_ GE534.out) | exact HB.out))); (case aF => exact (fun k_ hk => Kd.fresh' (Kd.R_lt (by (with_reducible repeat (first | apply Kd.R_alloc | apply Kd.R_drewN | apply Kd.R_drew)); exact HO_535001.out)) k_ hk)); (case aO => exact (by (with_reducible repeat (first | apply Kd.R_alloc | apply Kd.R_drewN | apply Kd.R_drew)); exact HO_535000.out)); (case aS => exact (below_size (by repeat (first | (with_reducible first | exact HB.out | apply below_alloc | apply pw_below_drewN | apply below_drew1 | refine below_set ?_ GE534.out) | exact HB.out)))); (case aL => have := LMc26.out; omega); intro v543 w30 ho hb hg hat; rw [← Ny542.out] at ho; have n0_ := Aside0.mk (Kd.S_after (ok := (fun k_ => some k_ ≠ (u535001 : Value).ownBlock ∧ k_ ≠ gb534)) (by (with_reducible repeat (first | apply Kd.S_alloc | apply Kd.S_drewN | apply Kd.S_drew)); exact Kd.S_mono HO_7.out (fun _ hk => ⟨⟨hk.2.1, hk.2.2⟩, hk.1⟩)) hg hat); have n1_ := Aside0.mk (Kd.R_after (ok := (fun _ => True)) (by (with_reducible repeat (first | apply Kd.R_alloc | apply Kd.R_drewN | apply Kd.R_drew)); exact Kd.R_mono HO_535001.out (fun _ hk => ⟨trivial, hk⟩)) hg hat); have n2_ := Aside0.mk (blk_grown (g := gb534) (o := .cells #[u535000, u535001] 53 (0, 0)) (by (with_reducible repeat (first | refine blk_drewN ?_ _ | refine blk_drew ?_ | refine blk_alloc ?_ _)); exact BK534.out) hg (Kd.R_ne HO_535000.out BK534.out (by decide))); have n3_ := Aside0.mk (hb); have n4_ := Aside0.mk (ho); clear HO_7; clear HO_535001; clear BK534; clear HB; clear HO_535000; have HO_7 := n0_; have HO_535001 := n1_; have BK534 := n2_; have HB := n3_; have HO544 := n4_; clear n0_ n1_ n2_ n3_ n4_; clear ho hb hg hat; obtain ⟨Ao31, co31, eo31⟩ := Kd.R_slice HO544.out; subst eo31; have hcz32_0 : w30.cell? ⟨gb534, 0, none⟩ = some (u535000) := (blk_cell BK534.out 0).trans rfl; have hcz32_1 : w30.cell? ⟨gb534, 1, none⟩ = some (u535001) := (blk_cell BK534.out 1).trans rfl; have hfz32_0 := blk_frozen BK534.out 0; have hfz32_1 := blk_frozen BK534.out 1; have p545 : 0 ≤ (x11_4 : Int) := of_decide_eq_true (by first | (with_reducible assumption) | assumption); have q545 : x11_4 < (l0.length : Int) := of_decide_eq_true (by first | (with_reducible assumption) | assumption); obtain ⟨ad545, A545_0, c545_0, e545, hx545_0, hl545_0, hi545_0⟩ := at_L5 HR0.out x11_4 p545 q545; obtain rfl : ad533 = ad545 := (by injection e545); have hn545_0 : ad533.block ≠ gb534 := Nat.ne_of_lt (Nat.lt_of_lt_of_le (by have := World.block_lt_of_cell? _ _ hx545_0; first | rwa [add_block] at this | exact this) GW534.out); replace hx545_0 := (HB.out.cell (World.block_lt_of_cell? w _ hx545_0)).trans hx545_0; have HR545_0 := Aside0.mk hi545_0; have HC545_0 := Aside0.mk hl545_0; clear hi545_0 hl545_0; replace hx545_0 := (cell_far (p := ⟨gb534, 0, none⟩) (by first | (rw [add_block]; exact hn545_0) | (show (Addr.add _ _).block ≠ _; rw [add_block]; exact hn545_0) | exact hn545_0) (.slice Ao31 y542.length co31)).trans hx545_0; (try have hy545_0 := fun (n_ : Nat) => (show (((w30.drewN n_).setCell ⟨gb534, 0, none⟩ (.slice Ao31 y542.length co31))).cell? _ = some _ from hx545_0)); clear hn545_0; replace p545 := eq_true p545; replace q545 := eq_true q545; have p546 : 0 ≤ (x8_3 : Int) := of_decide_eq_true (by first | (with_reducible assumption) | assumption); have q546 : x8_3 < ((rd_L5 l0 x11_4).length : Int) := of_decide_eq_true (by first | (with_reducible assumption) | assumption); obtain ⟨ad546, e546, hx546_0⟩ := Kd.at_int HR545_0.out x8_3 p546 q546; cases e546; have hn546_0 : ad546.block ≠ gb534 := Nat.ne_of_lt (Nat.lt_of_lt_of_le (by have := World.block_lt_of_cell? _ _ hx546_0; first | rwa [add_block] at this | exact this) GW534.out); replace hx546_0 := (HB.out.cell (World.block_lt_of_cell? w _ hx546_0)).trans hx546_0; replace hx546_0 := (cell_far (p := ⟨gb534, 0, none⟩) (by first | (rw [add_block]; exact hn546_0) | (show (Addr.add _ _).block ≠ _; rw [add_block]; exact hn546_0) | exact hn546_0) (.slice Ao31 y542.length co31)).trans hx546_0; (try have hy546_0 := fun (n_ : Nat) => (show (((w30.drewN n_).setCell ⟨gb534, 0, none⟩ (.slice Ao31 y542.length co31))).cell? _ = some _ from hx546_0)); clear hn546_0; replace p546 := eq_true p546; replace q546 := eq_true q546) | ((with_reducible refine gate_builtin (b := .append) (xs := #[.tmp 109, .tmp 111]) rfl ?_); at_builtin; refine Kd.R_append (Kd.int .i64) (w0 := w) w.heap.size rfl (.tmp 109) (.tmp 111) 43 3 (.int .i64 0) 8 rfl Try.underlying43 info3 rfl (by decide) (by omega) u535001 x535001_4 x11_4 [.int .i64 x11_4] (fun k_ => some k_ ≠ (.slice Ao31 y542.length co31 : Value).ownBlock) (fun _ => False) rfl (by first | (go_simp; done) | (go_simp; rfl)) ?aP (fun _ hk => hk.elim) ?aF ?aO ?aB ?aS ?aL ?_; (case aP => exact rfl); (case aB => exact (by repeat (first | (with_reducible first | exact HB.out | apply below_alloc | apply pw_below_drewN | apply below_drew1 | refine below_set ?_ GE534.out) | exact HB.out))); (case aF => exact (fun k_ hk => Kd.fresh' (Kd.R_lt (by (with_reducible repeat (first | apply Kd.R_alloc | apply Kd.R_drewN | apply Kd.R_drew)); exact (Kd.R_mono (Kd.R_far (p := ⟨gb534, 0, none⟩) (Kd.R_types HO544.out BK534.out (by decide)) (fun _ hk => hk.2) (.slice Ao31 y542.length co31)) (fun _ h_ => h_.1)))) k_ hk)); (case aO => exact (by (with_reducible repeat (first | apply Kd.R_alloc | apply Kd.R_drewN | apply Kd.R_drew)); exact Kd.R_mono (Kd.R_far (p := ⟨gb534, 0, none⟩) (Kd.R_types HO_535001.out BK534.out (by decide)) (fun _ hk => hk.2) (.slice Ao31 y542.length co31)) (fun _ hk => hk.1.2))); (case aS => exact (below_size (by repeat (first | (with_reducible first | exact HB.out | apply below_alloc | apply pw_below_drewN | apply below_drew1 | refine below_set ?_ GE534.out) | exact HB.out)))); (case aL => have := LMc28.out; omega); intro v548 w33 ho hb hg hat; rw [← Ny547.out] at ho; have n0_ := Aside0.mk (Kd.S_after (ok := (fun k_ => some k_ ≠ (.slice Ao31 y542.length co31 : Value).ownBlock ∧ k_ ≠ gb534)) (by (with_reducible repeat (first | apply Kd.S_alloc | apply Kd.S_drewN | apply Kd.S_drew)); exact Kd.S_mono (Kd.S_far (p := ⟨gb534, 0, none⟩) (Kd.S_mono HO_7.out (fun k_ hk => (⟨hk, hk.1.2⟩ : _ ∧ k_ ≠ gb534))) (fun _ hk => hk.2) (.slice Ao31 y542.length co31)) (fun _ hk => ⟨⟨hk.1.2, hk.1.1.2⟩, hk.1.1.1⟩)) hg hat); have n1_ := Aside0.mk (blk_grown (g := gb534) (o := .cells #[.slice Ao31 y542.length co31, u535001] 53 (0, 0)) (by (with_reducible repeat (first | refine blk_drewN ?_ _ | refine blk_drew ?_ | refine blk_alloc ?_ _)); refine blk_put (cs := #[u535000, u535001]) ?_ 0 _ rfl; (with_reducible repeat (first | refine blk_drewN ?_ _ | refine blk_drew ?_ | refine blk_alloc ?_ _)); exact BK534.out) hg (Kd.R_ne HO_535001.out BK534.out (by decide))); have n2_ := Aside0.mk (Kd.R_after (ok := (fun _ => True)) (by (with_reducible repeat (first | apply Kd.R_alloc | apply Kd.R_drewN | apply Kd.R_drew)); exact Kd.R_mono (Kd.R_far (p := ⟨gb534, 0, none⟩) (Kd.R_types HO544.out BK534.out (by decide)) (fun _ hk => hk.2) (.slice Ao31 y542.length co31)) (fun _ hk => ⟨trivial, hk.1⟩)) hg hat); have n3_ := Aside0.mk (hb); have n4_ := Aside0.mk (ho); clear HO_7; clear BK534; clear HO544; clear HB; clear HO_535001; have HO_7 := n0_; have BK534 := n1_; have HO544 := n2_; have HB := n3_; have HO549 := n4_; clear n0_ n1_ n2_ n3_ n4_; clear ho hb hg hat; obtain ⟨Ao34, co34, eo34⟩ := Kd.R_slice HO549.out; subst eo34; have hcz35_0 : w33.cell? ⟨gb534, 0, none⟩ = some (.slice Ao31 y542.length co31) := (blk_cell BK534.out 0).trans rfl; have hcz35_1 : w33.cell? ⟨gb534, 1, none⟩ = some (u535001) := (blk_cell BK534.out 1).trans rfl; have hfz35_0 := blk_frozen BK534.out 0; have hfz35_1 := blk_frozen BK534.out 1)); try go_wp2_with (first | ((with_reducible refine gate_builtin (b := .append) (xs := #[.tmp 95, .tmp 97]) rfl ?_); at_builtin; refine Kd.R_append (Kd.int .i64) (w0 := w) w.heap.size rfl (.tmp 95) (.tmp 97) 43 3 (.int .i64 0) 8 rfl Try.underlying43 info3 rfl (by decide) (by omega) u535000 x535000_4 x11_4 [.int .i64 x11_4] (fun k_ => some k_ ≠ (u535001 : Value).ownBlock) (fun _ => False) rfl rfl ?aP (fun _ hk => hk.elim) ?aF ?aO ?aB ?aS ?aL ?_; (case aP => exact rfl); (case aB => exact (by repeat (first | (with_reducible first | exact HB.out | apply below_alloc | apply pw_below_drewN | apply below_drew1 | refine below_set ?_ GE534.out) | exact HB.out))); (case aF => exact (fun k_ hk => Kd.fresh' (Kd.R_lt (by (with_reducible repeat (first | apply Kd.R_alloc | apply Kd.R_drewN | apply Kd.R_drew)); exact HO_535001.out)) k_ hk)); (case aO => exact (by (with_reducible repeat (first | apply Kd.R_alloc | apply Kd.R_drewN | apply Kd.R_drew)); exact HO_535000.out)); (case aS => exact (below_size (by repeat (first | (with_reducible first | exact HB.out | apply below_alloc | apply pw_below_drewN | apply below_drew1 | refine below_set ?_ GE534.out) | exact HB.out)))); (case aL => have := LMc26.out; omega); intro v543 w30 ho hb hg hat; rw [← Ny542.out] at ho; have n0_ := Aside0.mk (Kd.S_after (ok := (fun k_ => some k_ ≠ (u535001 : Value).ownBlock ∧ k_ ≠ gb534)) (by (with_reducible repeat (first | apply Kd.S_alloc | apply Kd.S_drewN | apply Kd.S_drew)); exact Kd.S_mono HO_7.out (fun _ hk => ⟨⟨hk.2.1, hk.2.2⟩, hk.1⟩)) hg hat); have n1_ := Aside0.mk (Kd.R_after (ok := (fun _ => True)) (by (with_reducible repeat (first | apply Kd.R_alloc | apply Kd.R_drewN | apply Kd.R_drew)); exact Kd.R_mono HO_535001.out (fun _ hk => ⟨trivial, hk⟩)) hg hat); have n2_ := Aside0.mk (blk_grown (g := gb534) (o := .cells #[u535000, u535001] 53 (0, 0)) (by (with_reducible repeat (first | refine blk_drewN ?_ _ | refine blk_drew ?_ | refine blk_alloc ?_ _)); exact BK534.out) hg (Kd.R_ne HO_535000.out BK534.out (by decide))); have n3_ := Aside0.mk (hb); have n4_ := Aside0.mk (ho); clear HO_7; clear HO_535001; clear BK534; clear HB; clear HO_535000; have HO_7 := n0_; have HO_535001 := n1_; have BK534 := n2_; have HB := n3_; have HO544 := n4_; clear n0_ n1_ n2_ n3_ n4_; clear ho hb hg hat; obtain ⟨Ao31, co31, eo31⟩ := Kd.R_slice HO544.out; subst eo31; have hcz32_0 : w30.cell? ⟨gb534, 0, none⟩ = some (u535000) := (blk_cell BK534.out 0).trans rfl; have hcz32_1 : w30.cell? ⟨gb534, 1, none⟩ = some (u535001) := (blk_cell BK534.out 1).trans rfl; have hfz32_0 := blk_frozen BK534.out 0; have hfz32_1 := blk_frozen BK534.out 1; have p545 : 0 ≤ (x11_4 : Int) := of_decide_eq_true (by first | (with_reducible assumption) | assumption); have q545 : x11_4 < (l0.length : Int) := of_decide_eq_true (by first | (with_reducible assumption) | assumption); obtain ⟨ad545, A545_0, c545_0, e545, hx545_0, hl545_0, hi545_0⟩ := at_L5 HR0.out x11_4 p545 q545; obtain rfl : ad533 = ad545 := (by injection e545); have hn545_0 : ad533.block ≠ gb534 := Nat.ne_of_lt (Nat.lt_of_lt_of_le (by have := World.block_lt_of_cell? _ _ hx545_0; first | rwa [add_block] at this | exact this) GW534.out); replace hx545_0 := (HB.out.cell (World.block_lt_of_cell? w _ hx545_0)).trans hx545_0; have HR545_0 := Aside0.mk hi545_0; have HC545_0 := Aside0.mk hl545_0; clear hi545_0 hl545_0; replace hx545_0 := (cell_far (p := ⟨gb534, 0, none⟩) (by first | (rw [add_block]; exact hn545_0) | (show (Addr.add _ _).block ≠ _; rw [add_block]; exact hn545_0) | exact hn545_0) (.slice Ao31 y542.length co31)).trans hx545_0; (try have hy545_0 := fun (n_ : Nat) => (show (((w30.drewN n_).setCell ⟨gb534, 0, none⟩ (.slice Ao31 y542.length co31))).cell? _ = some _ from hx545_0)); clear hn545_0; replace p545 := eq_true p545; replace q545 := eq_true q545; have p546 : 0 ≤ (x8_3 : Int) := of_decide_eq_true (by first | (with_reducible assumption) | assumption); have q546 : x8_3 < ((rd_L5 l0 x11_4).length : Int) := of_decide_eq_true (by first | (with_reducible assumption) | assumption); obtain ⟨ad546, e546, hx546_0⟩ := Kd.at_int HR545_0.out x8_3 p546 q546; cases e546; have hn546_0 : ad546.block ≠ gb534 := Nat.ne_of_lt (Nat.lt_of_lt_of_le (by have := World.block_lt_of_cell? _ _ hx546_0; first | rwa [add_block] at this | exact this) GW534.out); replace hx546_0 := (HB.out.cell (World.block_lt_of_cell? w _ hx546_0)).trans hx546_0; replace hx546_0 := (cell_far (p := ⟨gb534, 0, none⟩) (by first | (rw [add_block]; exact hn546_0) | (show (Addr.add _ _).block ≠ _; rw [add_block]; exact hn546_0) | exact hn546_0) (.slice Ao31 y542.length co31)).trans hx546_0; (try have hy546_0 := fun (n_ : Nat) => (show (((w30.drewN n_).setCell ⟨gb534, 0, none⟩ (.slice Ao31 y542.length co31))).cell? _ = some _ from hx546_0)); clear hn546_0; replace p546 := eq_true p546; replace q546 := eq_true q546) | ((with_reducible refine gate_builtin (b := .append) (xs := #[.tmp 109, .tmp 111]) rfl ?_); at_builtin; refine Kd.R_append (Kd.int .i64) (w0 := w) w.heap.size rfl (.tmp 109) (.tmp 111) 43 3 (.int .i64 0) 8 rfl Try.underlying43 info3 rfl (by decide) (by omega) u535001 x535001_4 x11_4 [.int .i64 x11_4] (fun k_ => some k_ ≠ (.slice Ao31 y542.length co31 : Value).ownBlock) (fun _ => False) rfl (by first | (go_simp; done) | (go_simp; rfl)) ?aP (fun _ hk => hk.elim) ?aF ?aO ?aB ?aS ?aL ?_; (case aP => exact rfl); (case aB => exact (by repeat (first | (with_reducible first | exact HB.out | apply below_alloc | apply pw_below_drewN | apply below_drew1 | refine below_set ?_ GE534.out) | exact HB.out))); (case aF => exact (fun k_ hk => Kd.fresh' (Kd.R_lt (by (with_reducible repeat (first | apply Kd.R_alloc | apply Kd.R_drewN | apply Kd.R_drew)); exact (Kd.R_mono (Kd.R_far (p := ⟨gb534, 0, none⟩) (Kd.R_types HO544.out BK534.out (by decide)) (fun _ hk => hk.2) (.slice Ao31 y542.length co31)) (fun _ h_ => h_.1)))) k_ hk)); (case aO => exact (by (with_reducible repeat (first | apply Kd.R_alloc | apply Kd.R_drewN | apply Kd.R_drew)); exact Kd.R_mono (Kd.R_far (p := ⟨gb534, 0, none⟩) (Kd.R_types HO_535001.out BK534.out (by decide)) (fun _ hk => hk.2) (.slice Ao31 y542.length co31)) (fun _ hk => hk.1.2))); (case aS => exact (below_size (by repeat (first | (with_reducible first | exact HB.out | apply below_alloc | apply pw_below_drewN | apply below_drew1 | refine below_set ?_ GE534.out) | exact HB.out)))); (case aL => have := LMc28.out; omega); intro v548 w33 ho hb hg hat; rw [← Ny547.out] at ho; have n0_ := Aside0.mk (Kd.S_after (ok := (fun k_ => some k_ ≠ (.slice Ao31 y542.length co31 : Value).ownBlock ∧ k_ ≠ gb534)) (by (with_reducible repeat (first | apply Kd.S_alloc | apply Kd.S_drewN | apply Kd.S_drew)); exact Kd.S_mono (Kd.S_far (p := ⟨gb534, 0, none⟩) (Kd.S_mono HO_7.out (fun k_ hk => (⟨hk, hk.1.2⟩ : _ ∧ k_ ≠ gb534))) (fun _ hk => hk.2) (.slice Ao31 y542.length co31)) (fun _ hk => ⟨⟨hk.1.2, hk.1.1.2⟩, hk.1.1.1⟩)) hg hat); have n1_ := Aside0.mk (blk_grown (g := gb534) (o := .cells #[.slice Ao31 y542.length co31, u535001] 53 (0, 0)) (by (with_reducible repeat (first | refine blk_drewN ?_ _ | refine blk_drew ?_ | refine blk_alloc ?_ _)); refine blk_put (cs := #[u535000, u535001]) ?_ 0 _ rfl; (with_reducible repeat (first | refine blk_drewN ?_ _ | refine blk_drew ?_ | refine blk_alloc ?_ _)); exact BK534.out) hg (Kd.R_ne HO_535001.out BK534.out (by decide))); have n2_ := Aside0.mk (Kd.R_after (ok := (fun _ => True)) (by (with_reducible repeat (first | apply Kd.R_alloc | apply Kd.R_drewN | apply Kd.R_drew)); exact Kd.R_mono (Kd.R_far (p := ⟨gb534, 0, none⟩) (Kd.R_types HO544.out BK534.out (by decide)) (fun _ hk => hk.2) (.slice Ao31 y542.length co31)) (fun _ hk => ⟨trivial, hk.1⟩)) hg hat); have n3_ := Aside0.mk (hb); have n4_ := Aside0.mk (ho); clear HO_7; clear BK534; clear HO544; clear HB; clear HO_535001; have HO_7 := n0_; have BK534 := n1_; have HO544 := n2_; have HB := n3_; have HO549 := n4_; clear n0_ n1_ n2_ n3_ n4_; clear ho hb hg hat; obtain ⟨Ao34, co34, eo34⟩ := Kd.R_slice HO549.out; subst eo34; have hcz35_0 : w33.cell? ⟨gb534, 0, none⟩ = some (.slice Ao31 y542.length co31) := (blk_cell BK534.out 0).trans rfl; have hcz35_1 : w33.cell? ⟨gb534, 1, none⟩ = some (u535001) := (blk_cell BK534.out 1).trans rfl; have hfz35_0 := blk_frozen BK534.out 0; have hfz35_1 := blk_frozen BK534.out 1)))
                                            go_roundg k4
                                            case measure => have := HK1.out; have := HK2.out; have := HK3.out; have := HK4.out; omega
                                            case rel => exact ⟨(wrap64 (x10_4 + (rd (rd_L5 l0 x11_4) x8_3))), (wrap64 (x11_4 + 1)), (y542), (y547), (.slice Ao31 y542.length co31), (.slice Ao34 y547.length co34), (by first | rfl | (simp; done) | (simp [*]; done)), (by first | rfl | (simp; done) | (simp [*]; done)), H', ⟨by have := HK1.out; have := HK2.out; have := HK3.out; have := HK4.out; omega⟩, ⟨by (with_reducible repeat (first | apply Kd.S_alloc | apply Kd.S_drewN | apply Kd.S_drew)); exact Kd.S_mono (Kd.S_far (p := ⟨gb534, 1, none⟩) (Kd.S_mono HO_7.out (fun k_ hk => (⟨hk, hk.1.2⟩ : _ ∧ k_ ≠ gb534))) (fun _ hk => hk.2) (.slice Ao34 y547.length co34)) (fun _ hk => ⟨hk.1.1.1, ⟨hk.1.2, hk.1.1.2⟩⟩)⟩, ⟨by (with_reducible repeat (first | apply Kd.R_alloc | apply Kd.R_drewN | apply Kd.R_drew)); exact Kd.R_mono (Kd.R_far (p := ⟨gb534, 1, none⟩) (Kd.R_types HO544.out BK534.out (by decide)) (fun _ hk => hk.2) (.slice Ao34 y547.length co34)) (fun _ hk => hk.1.2)⟩, ⟨by (with_reducible repeat (first | apply Kd.R_alloc | apply Kd.R_drewN | apply Kd.R_drew)); exact Kd.R_mono (Kd.R_far (p := ⟨gb534, 1, none⟩) (Kd.R_types HO549.out BK534.out (by decide)) (fun _ hk => hk.2) (.slice Ao34 y547.length co34)) (fun _ hk => hk.1)⟩, ⟨by (with_reducible repeat (first | refine blk_drewN ?_ _ | refine blk_drew ?_ | refine blk_alloc ?_ _)); refine blk_put (cs := #[.slice Ao31 y542.length co31, u535001]) ?_ 1 _ rfl; (with_reducible repeat (first | refine blk_drewN ?_ _ | refine blk_drew ?_ | refine blk_alloc ?_ _)); exact BK534.out⟩, ⟨by repeat (first | (with_reducible first | exact HB.out | apply below_alloc | apply pw_below_drewN | apply below_drew1 | refine below_set ?_ GE534.out) | exact HB.out)⟩⟩
                                          · rw [if_neg c28] at H
                                            exact absurd H (by simp)
                                        · rw [if_neg c27] at H
                                          have c27b0 : ((rd (rd_L5 l0 x11_4) x8_3) == (-1)) = false := beq_eq_false_iff_ne.mpr c27
                                          have c27b1 : ((rd (rd_L5 l0 x11_4) x8_3) != (-1)) = true := bne_iff_ne.mpr c27
                                          have H' := Aside0.mk H
                                          clear H
                                          have p538 : 0 ≤ (x11_4 : Int) := of_decide_eq_true (by first | (with_reducible assumption) | assumption)
                                          have q538 : x11_4 < (l0.length : Int) := of_decide_eq_true (by first | (with_reducible assumption) | assumption)
                                          obtain ⟨ad538, A538_0, c538_0, e538, hx538_0, hl538_0, hi538_0⟩ := at_L5 HR0.out x11_4 p538 q538
                                          obtain rfl : ad533 = ad538 := (by injection e538)
                                          replace hx538_0 := (HB.out.cell (World.block_lt_of_cell? w _ hx538_0)).trans hx538_0
                                          have HR538_0 := Aside0.mk hi538_0
                                          have HC538_0 := Aside0.mk hl538_0
                                          clear hi538_0 hl538_0
                                          replace p538 := eq_true p538
                                          replace q538 := eq_true q538
                                          have p539 : 0 ≤ (x8_3 : Int) := of_decide_eq_true (by first | (with_reducible assumption) | assumption)
                                          have q539 : x8_3 < ((rd_L5 l0 x11_4).length : Int) := of_decide_eq_true (by first | (with_reducible assumption) | assumption)
                                          obtain ⟨ad539, e539, hx539_0⟩ := Kd.at_int HR538_0.out x8_3 p539 q539
                                          cases e539
                                          replace hx539_0 := (HB.out.cell (World.block_lt_of_cell? w _ hx539_0)).trans hx539_0
                                          replace p539 := eq_true p539
                                          replace q539 := eq_true q539
                                          have p540 : 0 ≤ (x11_4 : Int) := of_decide_eq_true (by first | (with_reducible assumption) | assumption)
                                          have q540 : x11_4 < (l0.length : Int) := of_decide_eq_true (by first | (with_reducible assumption) | assumption)
                                          obtain ⟨ad540, A540_0, c540_0, e540, hx540_0, hl540_0, hi540_0⟩ := at_L5 HR0.out x11_4 p540 q540
                                          obtain rfl : ad533 = ad540 := (by injection e540)
                                          replace hx540_0 := (HB.out.cell (World.block_lt_of_cell? w _ hx540_0)).trans hx540_0
                                          have HR540_0 := Aside0.mk hi540_0
                                          have HC540_0 := Aside0.mk hl540_0
                                          clear hi540_0 hl540_0
                                          replace p540 := eq_true p540
                                          replace q540 := eq_true q540
                                          have ea_ := Option.some.inj (hx538_0.symm.trans hx540_0)
                                          injection ea_ with ea_ en_ ec_
                                          subst ea_
                                          subst ec_
                                          clear en_
                                          have p541 : 0 ≤ (x8_3 : Int) := of_decide_eq_true (by first | (with_reducible assumption) | assumption)
                                          have q541 : x8_3 < ((rd_L5 l0 x11_4).length : Int) := of_decide_eq_true (by first | (with_reducible assumption) | assumption)
                                          obtain ⟨ad541, e541, hx541_0⟩ := Kd.at_int HR540_0.out x8_3 p541 q541
                                          cases e541
                                          replace hx541_0 := (HB.out.cell (World.block_lt_of_cell? w _ hx541_0)).trans hx541_0
                                          replace p541 := eq_true p541
                                          replace q541 := eq_true q541
                                          have hcz36_0 : wr.cell? ⟨gb534, 0, none⟩ = some (u535000) := (blk_cell BK534.out 0).trans rfl
                                          have hcz36_1 : wr.cell? ⟨gb534, 1, none⟩ = some (u535001) := (blk_cell BK534.out 1).trans rfl
                                          have hfz36_0 := blk_frozen BK534.out 0
                                          have hfz36_1 := blk_frozen BK534.out 1
                                          go_wp2_with (first | ((with_reducible refine gate_builtin (b := .append) (xs := #[.tmp 95, .tmp 97]) rfl ?_); at_builtin; refine Kd.R_append (Kd.int .i64) (w0 := w) w.heap.size rfl (.tmp 95) (.tmp 97) 43 3 (.int .i64 0) 8 rfl Try.underlying43 info3 rfl (by decide) (by omega) u535000 x535000_4 x11_4 [.int .i64 x11_4] (fun k_ => some k_ ≠ (u535001 : Value).ownBlock) (fun _ => False) rfl rfl ?aP (fun _ hk => hk.elim) ?aF ?aO ?aB ?aS ?aL ?_; (case aP => exact rfl); (case aB => exact (by repeat (first | (with_reducible first | exact HB.out | apply below_alloc | apply pw_below_drewN | apply below_drew1 | refine below_set ?_ GE534.out) | exact HB.out))); (case aF => exact (fun k_ hk => Kd.fresh' (Kd.R_lt (by (with_reducible repeat (first | apply Kd.R_alloc | apply Kd.R_drewN | apply Kd.R_drew)); exact HO_535001.out)) k_ hk)); (case aO => exact (by (with_reducible repeat (first | apply Kd.R_alloc | apply Kd.R_drewN | apply Kd.R_drew)); exact HO_535000.out)); (case aS => exact (below_size (by repeat (first | (with_reducible first | exact HB.out | apply below_alloc | apply pw_below_drewN | apply below_drew1 | refine below_set ?_ GE534.out) | exact HB.out)))); (case aL => have := LMc26.out; omega); intro v543 w37 ho hb hg hat; rw [← Ny542.out] at ho; have n0_ := Aside0.mk (Kd.S_after (ok := (fun k_ => some k_ ≠ (u535001 : Value).ownBlock ∧ k_ ≠ gb534)) (by (with_reducible repeat (first | apply Kd.S_alloc | apply Kd.S_drewN | apply Kd.S_drew)); exact Kd.S_mono HO_7.out (fun _ hk => ⟨⟨hk.2.1, hk.2.2⟩, hk.1⟩)) hg hat); have n1_ := Aside0.mk (Kd.R_after (ok := (fun _ => True)) (by (with_reducible repeat (first | apply Kd.R_alloc | apply Kd.R_drewN | apply Kd.R_drew)); exact Kd.R_mono HO_535001.out (fun _ hk => ⟨trivial, hk⟩)) hg hat); have n2_ := Aside0.mk (blk_grown (g := gb534) (o := .cells #[u535000, u535001] 53 (0, 0)) (by (with_reducible repeat (first | refine blk_drewN ?_ _ | refine blk_drew ?_ | refine blk_alloc ?_ _)); exact BK534.out) hg (Kd.R_ne HO_535000.out BK534.out (by decide))); have n3_ := Aside0.mk (hb); have n4_ := Aside0.mk (ho); clear HO_7; clear HO_535001; clear BK534; clear HB; clear HO_535000; have HO_7 := n0_; have HO_535001 := n1_; have BK534 := n2_; have HB := n3_; have HO544 := n4_; clear n0_ n1_ n2_ n3_ n4_; clear ho hb hg hat; obtain ⟨Ao38, co38, eo38⟩ := Kd.R_slice HO544.out; subst eo38; have hcz39_0 : w37.cell? ⟨gb534, 0, none⟩ = some (u535000) := (blk_cell BK534.out 0).trans rfl; have hcz39_1 : w37.cell? ⟨gb534, 1, none⟩ = some (u535001) := (blk_cell BK534.out 1).trans rfl; have hfz39_0 := blk_frozen BK534.out 0; have hfz39_1 := blk_frozen BK534.out 1; have p545 : 0 ≤ (x11_4 : Int) := of_decide_eq_true (by first | (with_reducible assumption) | assumption); have q545 : x11_4 < (l0.length : Int) := of_decide_eq_true (by first | (with_reducible assumption) | assumption); obtain ⟨ad545, A545_0, c545_0, e545, hx545_0, hl545_0, hi545_0⟩ := at_L5 HR0.out x11_4 p545 q545; obtain rfl : ad533 = ad545 := (by injection e545); have hn545_0 : ad533.block ≠ gb534 := Nat.ne_of_lt (Nat.lt_of_lt_of_le (by have := World.block_lt_of_cell? _ _ hx545_0; first | rwa [add_block] at this | exact this) GW534.out); replace hx545_0 := (HB.out.cell (World.block_lt_of_cell? w _ hx545_0)).trans hx545_0; have HR545_0 := Aside0.mk hi545_0; have HC545_0 := Aside0.mk hl545_0; clear hi545_0 hl545_0; replace hx545_0 := (cell_far (p := ⟨gb534, 0, none⟩) (by first | (rw [add_block]; exact hn545_0) | (show (Addr.add _ _).block ≠ _; rw [add_block]; exact hn545_0) | exact hn545_0) (.slice Ao38 y542.length co38)).trans hx545_0; (try have hy545_0 := fun (n_ : Nat) => (show (((w37.drewN n_).setCell ⟨gb534, 0, none⟩ (.slice Ao38 y542.length co38))).cell? _ = some _ from hx545_0)); clear hn545_0; replace p545 := eq_true p545; replace q545 := eq_true q545; have p546 : 0 ≤ (x8_3 : Int) := of_decide_eq_true (by first | (with_reducible assumption) | assumption); have q546 : x8_3 < ((rd_L5 l0 x11_4).length : Int) := of_decide_eq_true (by first | (with_reducible assumption) | assumption); obtain ⟨ad546, e546, hx546_0⟩ := Kd.at_int HR545_0.out x8_3 p546 q546; cases e546; have hn546_0 : ad546.block ≠ gb534 := Nat.ne_of_lt (Nat.lt_of_lt_of_le (by have := World.block_lt_of_cell? _ _ hx546_0; first | rwa [add_block] at this | exact this) GW534.out); replace hx546_0 := (HB.out.cell (World.block_lt_of_cell? w _ hx546_0)).trans hx546_0; replace hx546_0 := (cell_far (p := ⟨gb534, 0, none⟩) (by first | (rw [add_block]; exact hn546_0) | (show (Addr.add _ _).block ≠ _; rw [add_block]; exact hn546_0) | exact hn546_0) (.slice Ao38 y542.length co38)).trans hx546_0; (try have hy546_0 := fun (n_ : Nat) => (show (((w37.drewN n_).setCell ⟨gb534, 0, none⟩ (.slice Ao38 y542.length co38))).cell? _ = some _ from hx546_0)); clear hn546_0; replace p546 := eq_true p546; replace q546 := eq_true q546))
                                          repeat (go_quiet (first | ((with_reducible refine gate_builtin (b := .append) (xs := #[.tmp 95, .tmp 97]) rfl ?_); at_builtin; refine Kd.R_append (Kd.int .i64) (w0 := w) w.heap.size rfl (.tmp 95) (.tmp 97) 43 3 (.int .i64 0) 8 rfl Try.underlying43 info3 rfl (by decide) (by omega) u535000 x535000_4 x11_4 [.int .i64 x11_4] (fun k_ => some k_ ≠ (u535001 : Value).ownBlock) (fun _ => False) rfl rfl ?aP (fun _ hk => hk.elim) ?aF ?aO ?aB ?aS ?aL ?_; (case aP => exact rfl); (case aB => exact (by repeat (first | (with_reducible first | exact HB.out | apply below_alloc | apply pw_below_drewN | apply below_drew1 | refine below_set ?_ GE534.out) | exact HB.out))); (case aF => exact (fun k_ hk => Kd.fresh' (Kd.R_lt (by (with_reducible repeat (first | apply Kd.R_alloc | apply Kd.R_drewN | apply Kd.R_drew)); exact HO_535001.out)) k_ hk)); (case aO => exact (by (with_reducible repeat (first | apply Kd.R_alloc | apply Kd.R_drewN | apply Kd.R_drew)); exact HO_535000.out)); (case aS => exact (below_size (by repeat (first | (with_reducible first | exact HB.out | apply below_alloc | apply pw_below_drewN | apply below_drew1 | refine below_set ?_ GE534.out) | exact HB.out)))); (case aL => have := LMc26.out; omega); intro v543 w37 ho hb hg hat; rw [← Ny542.out] at ho; have n0_ := Aside0.mk (Kd.S_after (ok := (fun k_ => some k_ ≠ (u535001 : Value).ownBlock ∧ k_ ≠ gb534)) (by (with_reducible repeat (first | apply Kd.S_alloc | apply Kd.S_drewN | apply Kd.S_drew)); exact Kd.S_mono HO_7.out (fun _ hk => ⟨⟨hk.2.1, hk.2.2⟩, hk.1⟩)) hg hat); have n1_ := Aside0.mk (Kd.R_after (ok := (fun _ => True)) (by (with_reducible repeat (first | apply Kd.R_alloc | apply Kd.R_drewN | apply Kd.R_drew)); exact Kd.R_mono HO_535001.out (fun _ hk => ⟨trivial, hk⟩)) hg hat); have n2_ := Aside0.mk (blk_grown (g := gb534) (o := .cells #[u535000, u535001] 53 (0, 0)) (by (with_reducible repeat (first | refine blk_drewN ?_ _ | refine blk_drew ?_ | refine blk_alloc ?_ _)); exact BK534.out) hg (Kd.R_ne HO_535000.out BK534.out (by decide))); have n3_ := Aside0.mk (hb); have n4_ := Aside0.mk (ho); clear HO_7; clear HO_535001; clear BK534; clear HB; clear HO_535000; have HO_7 := n0_; have HO_535001 := n1_; have BK534 := n2_; have HB := n3_; have HO544 := n4_; clear n0_ n1_ n2_ n3_ n4_; clear ho hb hg hat; obtain ⟨Ao38, co38, eo38⟩ := Kd.R_slice HO544.out; subst eo38; have hcz39_0 : w37.cell? ⟨gb534, 0, none⟩ = some (u535000) := (blk_cell BK534.out 0).trans rfl; have hcz39_1 : w37.cell? ⟨gb534, 1, none⟩ = some (u535001) := (blk_cell BK534.out 1).trans rfl; have hfz39_0 := blk_frozen BK534.out 0; have hfz39_1 := blk_frozen BK534.out 1; have p545 : 0 ≤ (x11_4 : Int) := of_decide_eq_true (by first | (with_reducible assumption) | assumption); have q545 : x11_4 < (l0.length : Int) := of_decide_eq_true (by first | (with_reducible assumption) | assumption); obtain ⟨ad545, A545_0, c545_0, e545, hx545_0, hl545_0, hi545_0⟩ := at_L5 HR0.out x11_4 p545 q545; obtain rfl : ad533 = ad545 := (by injection e545); have hn545_0 : ad533.block ≠ gb534 := Nat.ne_of_lt (Nat.lt_of_lt_of_le (by have := World.block_lt_of_cell? _ _ hx545_0; first | rwa [add_block] at this | exact this) GW534.out); replace hx545_0 := (HB.out.cell (World.block_lt_of_cell? w _ hx545_0)).trans hx545_0; have HR545_0 := Aside0.mk hi545_0; have HC545_0 := Aside0.mk hl545_0; clear hi545_0 hl545_0; replace hx545_0 := (cell_far (p := ⟨gb534, 0, none⟩) (by first | (rw [add_block]; exact hn545_0) | (show (Addr.add _ _).block ≠ _; rw [add_block]; exact hn545_0) | exact hn545_0) (.slice Ao38 y542.length co38)).trans hx545_0; (try have hy545_0 := fun (n_ : Nat) => (show (((w37.drewN n_).setCell ⟨gb534, 0, none⟩ (.slice Ao38 y542.length co38))).cell? _ = some _ from hx545_0)); clear hn545_0; replace p545 := eq_true p545; replace q545 := eq_true q545; have p546 : 0 ≤ (x8_3 : Int) := of_decide_eq_true (by first | (with_reducible assumption) | assumption); have q546 : x8_3 < ((rd_L5 l0 x11_4).length : Int) := of_decide_eq_true (by first | (with_reducible assumption) | assumption); obtain ⟨ad546, e546, hx546_0⟩ := Kd.at_int HR545_0.out x8_3 p546 q546; cases e546; have hn546_0 : ad546.block ≠ gb534 := Nat.ne_of_lt (Nat.lt_of_lt_of_le (by have := World.block_lt_of_cell? _ _ hx546_0; first | rwa [add_block] at this | exact this) GW534.out); replace hx546_0 := (HB.out.cell (World.block_lt_of_cell? w _ hx546_0)).trans hx546_0; replace hx546_0 := (cell_far (p := ⟨gb534, 0, none⟩) (by first | (rw [add_block]; exact hn546_0) | (show (Addr.add _ _).block ≠ _; rw [add_block]; exact hn546_0) | exact hn546_0) (.slice Ao38 y542.length co38)).trans hx546_0; (try have hy546_0 := fun (n_ : Nat) => (show (((w37.drewN n_).setCell ⟨gb534, 0, none⟩ (.slice Ao38 y542.length co38))).cell? _ = some _ from hx546_0)); clear hn546_0; replace p546 := eq_true p546; replace q546 := eq_true q546)); try go_wp2_with (first | ((with_reducible refine gate_builtin (b := .append) (xs := #[.tmp 95, .tmp 97]) rfl ?_); at_builtin; refine Kd.R_append (Kd.int .i64) (w0 := w) w.heap.size rfl (.tmp 95) (.tmp 97) 43 3 (.int .i64 0) 8 rfl Try.underlying43 info3 rfl (by decide) (by omega) u535000 x535000_4 x11_4 [.int .i64 x11_4] (fun k_ => some k_ ≠ (u535001 : Value).ownBlock) (fun _ => False) rfl rfl ?aP (fun _ hk => hk.elim) ?aF ?aO ?aB ?aS ?aL ?_; (case aP => exact rfl); (case aB => exact (by repeat (first | (with_reducible first | exact HB.out | apply below_alloc | apply pw_below_drewN | apply below_drew1 | refine below_set ?_ GE534.out) | exact HB.out))); (case aF => exact (fun k_ hk => Kd.fresh' (Kd.R_lt (by (with_reducible repeat (first | apply Kd.R_alloc | apply Kd.R_drewN | apply Kd.R_drew)); exact HO_535001.out)) k_ hk)); (case aO => exact (by (with_reducible repeat (first | apply Kd.R_alloc | apply Kd.R_drewN | apply Kd.R_drew)); exact HO_535000.out)); (case aS => exact (below_size (by repeat (first | (with_reducible first | exact HB.out | apply below_alloc | apply pw_below_drewN | apply below_drew1 | refine below_set ?_ GE534.out) | exact HB.out)))); (case aL => have := LMc26.out; omega); intro v543 w37 ho hb hg hat; rw [← Ny542.out] at ho; have n0_ := Aside0.mk (Kd.S_after (ok := (fun k_ => some k_ ≠ (u535001 : Value).ownBlock ∧ k_ ≠ gb534)) (by (with_reducible repeat (first | apply Kd.S_alloc | apply Kd.S_drewN | apply Kd.S_drew)); exact Kd.S_mono HO_7.out (fun _ hk => ⟨⟨hk.2.1, hk.2.2⟩, hk.1⟩)) hg hat); have n1_ := Aside0.mk (Kd.R_after (ok := (fun _ => True)) (by (with_reducible repeat (first | apply Kd.R_alloc | apply Kd.R_drewN | apply Kd.R_drew)); exact Kd.R_mono HO_535001.out (fun _ hk => ⟨trivial, hk⟩)) hg hat); have n2_ := Aside0.mk (blk_grown (g := gb534) (o := .cells #[u535000, u535001] 53 (0, 0)) (by (with_reducible repeat (first | refine blk_drewN ?_ _ | refine blk_drew ?_ | refine blk_alloc ?_ _)); exact BK534.out) hg (Kd.R_ne HO_535000.out BK534.out (by decide))); have n3_ := Aside0.mk (hb); have n4_ := Aside0.mk (ho); clear HO_7; clear HO_535001; clear BK534; clear HB; clear HO_535000; have HO_7 := n0_; have HO_535001 := n1_; have BK534 := n2_; have HB := n3_; have HO544 := n4_; clear n0_ n1_ n2_ n3_ n4_; clear ho hb hg hat; obtain ⟨Ao38, co38, eo38⟩ := Kd.R_slice HO544.out; subst eo38; have hcz39_0 : w37.cell? ⟨gb534, 0, none⟩ = some (u535000) := (blk_cell BK534.out 0).trans rfl; have hcz39_1 : w37.cell? ⟨gb534, 1, none⟩ = some (u535001) := (blk_cell BK534.out 1).trans rfl; have hfz39_0 := blk_frozen BK534.out 0; have hfz39_1 := blk_frozen BK534.out 1; have p545 : 0 ≤ (x11_4 : Int) := of_decide_eq_true (by first | (with_reducible assumption) | assumption); have q545 : x11_4 < (l0.length : Int) := of_decide_eq_true (by first | (with_reducible assumption) | assumption); obtain ⟨ad545, A545_0, c545_0, e545, hx545_0, hl545_0, hi545_0⟩ := at_L5 HR0.out x11_4 p545 q545; obtain rfl : ad533 = ad545 := (by injection e545); have hn545_0 : ad533.block ≠ gb534 := Nat.ne_of_lt (Nat.lt_of_lt_of_le (by have := World.block_lt_of_cell? _ _ hx545_0; first | rwa [add_block] at this | exact this) GW534.out); replace hx545_0 := (HB.out.cell (World.block_lt_of_cell? w _ hx545_0)).trans hx545_0; have HR545_0 := Aside0.mk hi545_0; have HC545_0 := Aside0.mk hl545_0; clear hi545_0 hl545_0; replace hx545_0 := (cell_far (p := ⟨gb534, 0, none⟩) (by first | (rw [add_block]; exact hn545_0) | (show (Addr.add _ _).block ≠ _; rw [add_block]; exact hn545_0) | exact hn545_0) (.slice Ao38 y542.length co38)).trans hx545_0; (try have hy545_0 := fun (n_ : Nat) => (show (((w37.drewN n_).setCell ⟨gb534, 0, none⟩ (.slice Ao38 y542.length co38))).cell? _ = some _ from hx545_0)); clear hn545_0; replace p545 := eq_true p545; replace q545 := eq_true q545; have p546 : 0 ≤ (x8_3 : Int) := of_decide_eq_true (by first | (with_reducible assumption) | assumption); have q546 : x8_3 < ((rd_L5 l0 x11_4).length : Int) := of_decide_eq_true (by first | (with_reducible assumption) | assumption); obtain ⟨ad546, e546, hx546_0⟩ := Kd.at_int HR545_0.out x8_3 p546 q546; cases e546; have hn546_0 : ad546.block ≠ gb534 := Nat.ne_of_lt (Nat.lt_of_lt_of_le (by have := World.block_lt_of_cell? _ _ hx546_0; first | rwa [add_block] at this | exact this) GW534.out); replace hx546_0 := (HB.out.cell (World.block_lt_of_cell? w _ hx546_0)).trans hx546_0; replace hx546_0 := (cell_far (p := ⟨gb534, 0, none⟩) (by first | (rw [add_block]; exact hn546_0) | (show (Addr.add _ _).block ≠ _; rw [add_block]; exact hn546_0) | exact hn546_0) (.slice Ao38 y542.length co38)).trans hx546_0; (try have hy546_0 := fun (n_ : Nat) => (show (((w37.drewN n_).setCell ⟨gb534, 0, none⟩ (.slice Ao38 y542.length co38))).cell? _ = some _ from hx546_0)); clear hn546_0; replace p546 := eq_true p546; replace q546 := eq_true q546)))
                                          go_roundg k4
                                          case measure => have := HK1.out; have := HK2.out; have := HK3.out; have := HK4.out; omega
                                          case rel => exact ⟨(wrap64 (x10_4 + (rd (rd_L5 l0 x11_4) x8_3))), (wrap64 (x11_4 + 1)), (y542), (x535001_4), (.slice Ao38 y542.length co38), (u535001), (by first | rfl | (simp; done) | (simp [*]; done)), (by first | rfl | (simp; done) | (simp [*]; done)), H', ⟨by have := HK1.out; have := HK2.out; have := HK3.out; have := HK4.out; omega⟩, ⟨by (with_reducible repeat (first | apply Kd.S_alloc | apply Kd.S_drewN | apply Kd.S_drew)); exact Kd.S_mono (Kd.S_far (p := ⟨gb534, 0, none⟩) (Kd.S_mono HO_7.out (fun k_ hk => (⟨hk, hk.1.2⟩ : _ ∧ k_ ≠ gb534))) (fun _ hk => hk.2) (.slice Ao38 y542.length co38)) (fun _ hk => ⟨hk.1.2, ⟨hk.1.1.1, hk.1.1.2⟩⟩)⟩, ⟨by (with_reducible repeat (first | apply Kd.R_alloc | apply Kd.R_drewN | apply Kd.R_drew)); exact Kd.R_mono (Kd.R_far (p := ⟨gb534, 0, none⟩) (Kd.R_types HO544.out BK534.out (by decide)) (fun _ hk => hk.2) (.slice Ao38 y542.length co38)) (fun _ hk => hk.1)⟩, ⟨by (with_reducible repeat (first | apply Kd.R_alloc | apply Kd.R_drewN | apply Kd.R_drew)); exact Kd.R_mono (Kd.R_far (p := ⟨gb534, 0, none⟩) (Kd.R_types HO_535001.out BK534.out (by decide)) (fun _ hk => hk.2) (.slice Ao38 y542.length co38)) (fun _ hk => hk.1.2)⟩, ⟨by (with_reducible repeat (first | refine blk_drewN ?_ _ | refine blk_drew ?_ | refine blk_alloc ?_ _)); refine blk_put (cs := #[u535000, u535001]) ?_ 0 _ rfl; (with_reducible repeat (first | refine blk_drewN ?_ _ | refine blk_drew ?_ | refine blk_alloc ?_ _)); exact BK534.out⟩, ⟨by repeat (first | (with_reducible first | exact HB.out | apply below_alloc | apply pw_below_drewN | apply below_drew1 | refine below_set ?_ GE534.out) | exact HB.out)⟩⟩
                                      · rw [if_neg c26] at H
                                        exact absurd H (by simp)
                                    · rw [if_neg c25] at H
                                      have c25b0 : ((rd (rd_L5 l0 x11_4) x8_3) == 1) = false := beq_eq_false_iff_ne.mpr c25
                                      have c25b1 : ((rd (rd_L5 l0 x11_4) x8_3) != 1) = true := bne_iff_ne.mpr c25
                                      by_cases c40 : (rd (rd_L5 l0 x11_4) x8_3) = (-1)
                                      · rw [if_pos c40] at H
                                        have c40b0 : ((rd (rd_L5 l0 x11_4) x8_3) == (-1)) = true := beq_iff_eq.mpr c40
                                        have c40b1 : ((rd (rd_L5 l0 x11_4) x8_3) != (-1)) = false := bne_eq_false_iff_eq.mpr c40
                                        clear c40
                                        by_cases c41 : x535001_4.length < 17592186044416
                                        · rw [if_pos c41] at H
                                          have LMc41 := Aside0.mk c41
                                          clear c41
                                          obtain ⟨y552, hy552⟩ : ∃ y_ : List Int, y_ = (x535001_4 ++ [x11_4]) := ⟨_, rfl⟩
                                          replace H : (verditerref06_FromMarks.l4 k4 l0 x7_3 x8_3 (wrap64 (x10_4 + (rd (rd_L5 l0 x11_4) x8_3))) (wrap64 (x11_4 + 1)) x535000_4 y552) = some (r1, r2) := by first | (rw [hy552]; with_reducible exact H) | (have H2_ := (Option.bind_some _ _).symm.trans H; rw [hy552]; with_reducible exact H2_) | (have H2_ := (Option.bind_some _ _).symm.trans H; with_reducible exact H2_) | with_reducible exact H | (rw [hy552]; exact H) | exact H
                                          have Ny552 := Aside0.mk hy552
                                          clear hy552
                                          have H' := Aside0.mk H
                                          clear H
                                          have p538 : 0 ≤ (x11_4 : Int) := of_decide_eq_true (by first | (with_reducible assumption) | assumption)
                                          have q538 : x11_4 < (l0.length : Int) := of_decide_eq_true (by first | (with_reducible assumption) | assumption)
                                          obtain ⟨ad538, A538_0, c538_0, e538, hx538_0, hl538_0, hi538_0⟩ := at_L5 HR0.out x11_4 p538 q538
                                          obtain rfl : ad533 = ad538 := (by injection e538)
                                          replace hx538_0 := (HB.out.cell (World.block_lt_of_cell? w _ hx538_0)).trans hx538_0
                                          have HR538_0 := Aside0.mk hi538_0
                                          have HC538_0 := Aside0.mk hl538_0
                                          clear hi538_0 hl538_0
                                          replace p538 := eq_true p538
                                          replace q538 := eq_true q538
                                          have p539 : 0 ≤ (x8_3 : Int) := of_decide_eq_true (by first | (with_reducible assumption) | assumption)
                                          have q539 : x8_3 < ((rd_L5 l0 x11_4).length : Int) := of_decide_eq_true (by first | (with_reducible assumption) | assumption)
                                          obtain ⟨ad539, e539, hx539_0⟩ := Kd.at_int HR538_0.out x8_3 p539 q539
                                          cases e539
                                          replace hx539_0 := (HB.out.cell (World.block_lt_of_cell? w _ hx539_0)).trans hx539_0
                                          replace p539 := eq_true p539
                                          replace q539 := eq_true q539
                                          have p540 : 0 ≤ (x11_4 : Int) := of_decide_eq_true (by first | (with_reducible assumption) | assumption)
                                          have q540 : x11_4 < (l0.length : Int) := of_decide_eq_true (by first | (with_reducible assumption) | assumption)
                                          obtain ⟨ad540, A540_0, c540_0, e540, hx540_0, hl540_0, hi540_0⟩ := at_L5 HR0.out x11_4 p540 q540
                                          obtain rfl : ad533 = ad540 := (by injection e540)
                                          replace hx540_0 := (HB.out.cell (World.block_lt_of_cell? w _ hx540_0)).trans hx540_0
                                          have HR540_0 := Aside0.mk hi540_0
                                          have HC540_0 := Aside0.mk hl540_0
                                          clear hi540_0 hl540_0
                                          replace p540 := eq_true p540
                                          replace q540 := eq_true q540
                                          have ea_ := Option.some.inj (hx538_0.symm.trans hx540_0)
                                          injection ea_ with ea_ en_ ec_
                                          subst ea_
                                          subst ec_
                                          clear en_
                                          have p541 : 0 ≤ (x8_3 : Int) := of_decide_eq_true (by first | (with_reducible assumption) | assumption)
                                          have q541 : x8_3 < ((rd_L5 l0 x11_4).length : Int) := of_decide_eq_true (by first | (with_reducible assumption) | assumption)
                                          obtain ⟨ad541, e541, hx541_0⟩ := Kd.at_int HR540_0.out x8_3 p541 q541
                                          cases e541
                                          replace hx541_0 := (HB.out.cell (World.block_lt_of_cell? w _ hx541_0)).trans hx541_0
                                          replace p541 := eq_true p541
                                          replace q541 := eq_true q541
                                          have p550 : 0 ≤ (x11_4 : Int) := of_decide_eq_true (by first | (with_reducible assumption) | assumption)
                                          have q550 : x11_4 < (l0.length : Int) := of_decide_eq_true (by first | (with_reducible assumption) | assumption)
                                          obtain ⟨ad550, A550_0, c550_0, e550, hx550_0, hl550_0, hi550_0⟩ := at_L5 HR0.out x11_4 p550 q550
                                          obtain rfl : ad533 = ad550 := (by injection e550)
                                          replace hx550_0 := (HB.out.cell (World.block_lt_of_cell? w _ hx550_0)).trans hx550_0
                                          have HR550_0 := Aside0.mk hi550_0
                                          have HC550_0 := Aside0.mk hl550_0
                                          clear hi550_0 hl550_0
                                          replace p550 := eq_true p550
                                          replace q550 := eq_true q550
                                          have ea_ := Option.some.inj (hx538_0.symm.trans hx550_0)
                                          injection ea_ with ea_ en_ ec_
                                          subst ea_
                                          subst ec_
                                          clear en_
                                          have p551 : 0 ≤ (x8_3 : Int) := of_decide_eq_true (by first | (with_reducible assumption) | assumption)
                                          have q551 : x8_3 < ((rd_L5 l0 x11_4).length : Int) := of_decide_eq_true (by first | (with_reducible assumption) | assumption)
                                          obtain ⟨ad551, e551, hx551_0⟩ := Kd.at_int HR550_0.out x8_3 p551 q551
                                          cases e551
                                          replace hx551_0 := (HB.out.cell (World.block_lt_of_cell? w _ hx551_0)).trans hx551_0
                                          replace p551 := eq_true p551
                                          replace q551 := eq_true q551
                                          have hcz42_0 : wr.cell? ⟨gb534, 0, none⟩ = some (u535000) := (blk_cell BK534.out 0).trans rfl
                                          have hcz42_1 : wr.cell? ⟨gb534, 1, none⟩ = some (u535001) := (blk_cell BK534.out 1).trans rfl
                                          have hfz42_0 := blk_frozen BK534.out 0
                                          have hfz42_1 := blk_frozen BK534.out 1
                                          go_wp2_with (first | ((with_reducible refine gate_builtin (b := .append) (xs := #[.tmp 109, .tmp 111]) rfl ?_); at_builtin; refine Kd.R_append (Kd.int .i64) (w0 := w) w.heap.size rfl (.tmp 109) (.tmp 111) 43 3 (.int .i64 0) 8 rfl Try.underlying43 info3 rfl (by decide) (by omega) u535001 x535001_4 x11_4 [.int .i64 x11_4] (fun k_ => some k_ ≠ (u535000 : Value).ownBlock) (fun _ => False) rfl rfl ?aP (fun _ hk => hk.elim) ?aF ?aO ?aB ?aS ?aL ?_; (case aP => exact rfl); (case aB => exact (by repeat (first | (with_reducible first | exact HB.out | apply below_alloc | apply pw_below_drewN | apply below_drew1 | refine below_set ?_ GE534.out) | exact HB.out))); (case aF => exact (fun k_ hk => Kd.fresh' (Kd.R_lt (by (with_reducible repeat (first | apply Kd.R_alloc | apply Kd.R_drewN | apply Kd.R_drew)); exact HO_535000.out)) k_ hk)); (case aO => exact (by (with_reducible repeat (first | apply Kd.R_alloc | apply Kd.R_drewN | apply Kd.R_drew)); exact HO_535001.out)); (case aS => exact (below_size (by repeat (first | (with_reducible first | exact HB.out | apply below_alloc | apply pw_below_drewN | apply below_drew1 | refine below_set ?_ GE534.out) | exact HB.out)))); (case aL => have := LMc41.out; omega); intro v553 w43 ho hb hg hat; rw [← Ny552.out] at ho; have n0_ := Aside0.mk (Kd.S_after (ok := (fun k_ => some k_ ≠ (u535000 : Value).ownBlock ∧ k_ ≠ gb534)) (by (with_reducible repeat (first | apply Kd.S_alloc | apply Kd.S_drewN | apply Kd.S_drew)); exact Kd.S_mono HO_7.out (fun _ hk => ⟨⟨hk.1, hk.2.2⟩, hk.2.1⟩)) hg hat); have n1_ := Aside0.mk (Kd.R_after (ok := (fun _ => True)) (by (with_reducible repeat (first | apply Kd.R_alloc | apply Kd.R_drewN | apply Kd.R_drew)); exact Kd.R_mono HO_535000.out (fun _ hk => ⟨trivial, hk⟩)) hg hat); have n2_ := Aside0.mk (blk_grown (g := gb534) (o := .cells #[u535000, u535001] 53 (0, 0)) (by (with_reducible repeat (first | refine blk_drewN ?_ _ | refine blk_drew ?_ | refine blk_alloc ?_ _)); exact BK534.out) hg (Kd.R_ne HO_535001.out BK534.out (by decide))); have n3_ := Aside0.mk (hb); have n4_ := Aside0.mk (ho); clear HO_7; clear HO_535000; clear BK534; clear HB; clear HO_535001; have HO_7 := n0_; have HO_535000 := n1_; have BK534 := n2_; have HB := n3_; have HO554 := n4_; clear n0_ n1_ n2_ n3_ n4_; clear ho hb hg hat; obtain ⟨Ao44, co44, eo44⟩ := Kd.R_slice HO554.out; subst eo44; have hcz45_0 : w43.cell? ⟨gb534, 0, none⟩ = some (u535000) := (blk_cell BK534.out 0).trans rfl; have hcz45_1 : w43.cell? ⟨gb534, 1, none⟩ = some (u535001) := (blk_cell BK534.out 1).trans rfl; have hfz45_0 := blk_frozen BK534.out 0; have hfz45_1 := blk_frozen BK534.out 1))
                                          repeat (go_quiet (first | ((with_reducible refine gate_builtin (b := .append) (xs := #[.tmp 109, .tmp 111]) rfl ?_); at_builtin; refine Kd.R_append (Kd.int .i64) (w0 := w) w.heap.size rfl (.tmp 109) (.tmp 111) 43 3 (.int .i64 0) 8 rfl Try.underlying43 info3 rfl (by decide) (by omega) u535001 x535001_4 x11_4 [.int .i64 x11_4] (fun k_ => some k_ ≠ (u535000 : Value).ownBlock) (fun _ => False) rfl rfl ?aP (fun _ hk => hk.elim) ?aF ?aO ?aB ?aS ?aL ?_; (case aP => exact rfl); (case aB => exact (by repeat (first | (with_reducible first | exact HB.out | apply below_alloc | apply pw_below_drewN | apply below_drew1 | refine below_set ?_ GE534.out) | exact HB.out))); (case aF => exact (fun k_ hk => Kd.fresh' (Kd.R_lt (by (with_reducible repeat (first | apply Kd.R_alloc | apply Kd.R_drewN | apply Kd.R_drew)); exact HO_535000.out)) k_ hk)); (case aO => exact (by (with_reducible repeat (first | apply Kd.R_alloc | apply Kd.R_drewN | apply Kd.R_drew)); exact HO_535001.out)); (case aS => exact (below_size (by repeat (first | (with_reducible first | exact HB.out | apply below_alloc | apply pw_below_drewN | apply below_drew1 | refine below_set ?_ GE534.out) | exact HB.out)))); (case aL => have := LMc41.out; omega); intro v553 w43 ho hb hg hat; rw [← Ny552.out] at ho; have n0_ := Aside0.mk (Kd.S_after (ok := (fun k_ => some k_ ≠ (u535000 : Value).ownBlock ∧ k_ ≠ gb534)) (by (with_reducible repeat (first | apply Kd.S_alloc | apply Kd.S_drewN | apply Kd.S_drew)); exact Kd.S_mono HO_7.out (fun _ hk => ⟨⟨hk.1, hk.2.2⟩, hk.2.1⟩)) hg hat); have n1_ := Aside0.mk (Kd.R_after (ok := (fun _ => True)) (by (with_reducible repeat (first | apply Kd.R_alloc | apply Kd.R_drewN | apply Kd.R_drew)); exact Kd.R_mono HO_535000.out (fun _ hk => ⟨trivial, hk⟩)) hg hat); have n2_ := Aside0.mk (blk_grown (g := gb534) (o := .cells #[u535000, u535001] 53 (0, 0)) (by (with_reducible repeat (first | refine blk_drewN ?_ _ | refine blk_drew ?_ | refine blk_alloc ?_ _)); exact BK534.out) hg (Kd.R_ne HO_535001.out BK534.out (by decide))); have n3_ := Aside0.mk (hb); have n4_ := Aside0.mk (ho); clear HO_7; clear HO_535000; clear BK534; clear HB; clear HO_535001; have HO_7 := n0_; have HO_535000 := n1_; have BK534 := n2_; have HB := n3_; have HO554 := n4_; clear n0_ n1_ n2_ n3_ n4_; clear ho hb hg hat; obtain ⟨Ao44, co44, eo44⟩ := Kd.R_slice HO554.out; subst eo44; have hcz45_0 : w43.cell? ⟨gb534, 0, none⟩ = some (u535000) := (blk_cell BK534.out 0).trans rfl; have hcz45_1 : w43.cell? ⟨gb534, 1, none⟩ = some (u535001) := (blk_cell BK534.out 1).trans rfl; have hfz45_0 := blk_frozen BK534.out 0; have hfz45_1 := blk_frozen BK534.out 1)); try go_wp2_with (first | ((with_reducible refine gate_builtin (b := .append) (xs := #[.tmp 109, .tmp 111]) rfl ?_); at_builtin; refine Kd.R_append (Kd.int .i64) (w0 := w) w.heap.size rfl (.tmp 109) (.tmp 111) 43 3 (.int .i64 0) 8 rfl Try.underlying43 info3 rfl (by decide) (by omega) u535001 x535001_4 x11_4 [.int .i64 x11_4] (fun k_ => some k_ ≠ (u535000 : Value).ownBlock) (fun _ => False) rfl rfl ?aP (fun _ hk => hk.elim) ?aF ?aO ?aB ?aS ?aL ?_; (case aP => exact rfl); (case aB => exact (by repeat (first | (with_reducible first | exact HB.out | apply below_alloc | apply pw_below_drewN | apply below_drew1 | refine below_set ?_ GE534.out) | exact HB.out))); (case aF => exact (fun k_ hk => Kd.fresh' (Kd.R_lt (by (with_reducible repeat (first | apply Kd.R_alloc | apply Kd.R_drewN | apply Kd.R_drew)); exact HO_535000.out)) k_ hk)); (case aO => exact (by (with_reducible repeat (first | apply Kd.R_alloc | apply Kd.R_drewN | apply Kd.R_drew)); exact HO_535001.out)); (case aS => exact (below_size (by repeat (first | (with_reducible first | exact HB.out | apply below_alloc | apply pw_below_drewN | apply below_drew1 | refine below_set ?_ GE534.out) | exact HB.out)))); (case aL => have := LMc41.out; omega); intro v553 w43 ho hb hg hat; rw [← Ny552.out] at ho; have n0_ := Aside0.mk (Kd.S_after (ok := (fun k_ => some k_ ≠ (u535000 : Value).ownBlock ∧ k_ ≠ gb534)) (by (with_reducible repeat (first | apply Kd.S_alloc | apply Kd.S_drewN | apply Kd.S_drew)); exact Kd.S_mono HO_7.out (fun _ hk => ⟨⟨hk.1, hk.2.2⟩, hk.2.1⟩)) hg hat); have n1_ := Aside0.mk (Kd.R_after (ok := (fun _ => True)) (by (with_reducible repeat (first | apply Kd.R_alloc | apply Kd.R_drewN | apply Kd.R_drew)); exact Kd.R_mono HO_535000.out (fun _ hk => ⟨trivial, hk⟩)) hg hat); have n2_ := Aside0.mk (blk_grown (g := gb534) (o := .cells #[u535000, u535001] 53 (0, 0)) (by (with_reducible repeat (first | refine blk_drewN ?_ _ | refine blk_drew ?_ | refine blk_alloc ?_ _)); exact BK534.out) hg (Kd.R_ne HO_535001.out BK534.out (by decide))); have n3_ := Aside0.mk (hb); have n4_ := Aside0.mk (ho); clear HO_7; clear HO_535000; clear BK534; clear HB; clear HO_535001; have HO_7 := n0_; have HO_535000 := n1_; have BK534 := n2_; have HB := n3_; have HO554 := n4_; clear n0_ n1_ n2_ n3_ n4_; clear ho hb hg hat; obtain ⟨Ao44, co44, eo44⟩ := Kd.R_slice HO554.out; subst eo44; have hcz45_0 : w43.cell? ⟨gb534, 0, none⟩ = some (u535000) := (blk_cell BK534.out 0).trans rfl; have hcz45_1 : w43.cell? ⟨gb534, 1, none⟩ = some (u535001) := (blk_cell BK534.out 1).trans rfl; have hfz45_0 := blk_frozen BK534.out 0; have hfz45_1 := blk_frozen BK534.out 1)))
                                          go_roundg k4
                                          case measure => have := HK1.out; have := HK2.out; have := HK3.out; have := HK4.out; omega
                                          case rel => exact ⟨(wrap64 (x10_4 + (rd (rd_L5 l0 x11_4) x8_3))), (wrap64 (x11_4 + 1)), (x535000_4), (y552), (u535000), (.slice Ao44 y552.length co44), (by first | rfl | (simp; done) | (simp [*]; done)), (by first | rfl | (simp; done) | (simp [*]; done)), H', ⟨by have := HK1.out; have := HK2.out; have := HK3.out; have := HK4.out; omega⟩, ⟨by (with_reducible repeat (first | apply Kd.S_alloc | apply Kd.S_drewN | apply Kd.S_drew)); exact Kd.S_mono (Kd.S_far (p := ⟨gb534, 1, none⟩) (Kd.S_mono HO_7.out (fun k_ hk => (⟨hk, hk.1.2⟩ : _ ∧ k_ ≠ gb534))) (fun _ hk => hk.2) (.slice Ao44 y552.length co44)) (fun _ hk => ⟨hk.1.1.1, ⟨hk.1.2, hk.1.1.2⟩⟩)⟩, ⟨by (with_reducible repeat (first | apply Kd.R_alloc | apply Kd.R_drewN | apply Kd.R_drew)); exact Kd.R_mono (Kd.R_far (p := ⟨gb534, 1, none⟩) (Kd.R_types HO_535000.out BK534.out (by decide)) (fun _ hk => hk.2) (.slice Ao44 y552.length co44)) (fun _ hk => hk.1.2)⟩, ⟨by (with_reducible repeat (first | apply Kd.R_alloc | apply Kd.R_drewN | apply Kd.R_drew)); exact Kd.R_mono (Kd.R_far (p := ⟨gb534, 1, none⟩) (Kd.R_types HO554.out BK534.out (by decide)) (fun _ hk => hk.2) (.slice Ao44 y552.length co44)) (fun _ hk => hk.1)⟩, ⟨by (with_reducible repeat (first | refine blk_drewN ?_ _ | refine blk_drew ?_ | refine blk_alloc ?_ _)); refine blk_put (cs := #[u535000, u535001]) ?_ 1 _ rfl; (with_reducible repeat (first | refine blk_drewN ?_ _ | refine blk_drew ?_ | refine blk_alloc ?_ _)); exact BK534.out⟩, ⟨by repeat (first | (with_reducible first | exact HB.out | apply below_alloc | apply pw_below_drewN | apply below_drew1 | refine below_set ?_ GE534.out) | exact HB.out)⟩⟩
                                        · rw [if_neg c41] at H
                                          exact absurd H (by simp)
                                      · rw [if_neg c40] at H
                                        have c40b0 : ((rd (rd_L5 l0 x11_4) x8_3) == (-1)) = false := beq_eq_false_iff_ne.mpr c40
                                        have c40b1 : ((rd (rd_L5 l0 x11_4) x8_3) != (-1)) = true := bne_iff_ne.mpr c40
                                        have H' := Aside0.mk H
                                        clear H
                                        have p538 : 0 ≤ (x11_4 : Int) := of_decide_eq_true (by first | (with_reducible assumption) | assumption)
                                        have q538 : x11_4 < (l0.length : Int) := of_decide_eq_true (by first | (with_reducible assumption) | assumption)
                                        obtain ⟨ad538, A538_0, c538_0, e538, hx538_0, hl538_0, hi538_0⟩ := at_L5 HR0.out x11_4 p538 q538
                                        obtain rfl : ad533 = ad538 := (by injection e538)
                                        replace hx538_0 := (HB.out.cell (World.block_lt_of_cell? w _ hx538_0)).trans hx538_0
                                        have HR538_0 := Aside0.mk hi538_0
                                        have HC538_0 := Aside0.mk hl538_0
                                        clear hi538_0 hl538_0
                                        replace p538 := eq_true p538
                                        replace q538 := eq_true q538
                                        have p539 : 0 ≤ (x8_3 : Int) := of_decide_eq_true (by first | (with_reducible assumption) | assumption)
                                        have q539 : x8_3 < ((rd_L5 l0 x11_4).length : Int) := of_decide_eq_true (by first | (with_reducible assumption) | assumption)
                                        obtain ⟨ad539, e539, hx539_0⟩ := Kd.at_int HR538_0.out x8_3 p539 q539
                                        cases e539
                                        replace hx539_0 := (HB.out.cell (World.block_lt_of_cell? w _ hx539_0)).trans hx539_0
                                        replace p539 := eq_true p539
                                        replace q539 := eq_true q539
                                        have p540 : 0 ≤ (x11_4 : Int) := of_decide_eq_true (by first | (with_reducible assumption) | assumption)
                                        have q540 : x11_4 < (l0.length : Int) := of_decide_eq_true (by first | (with_reducible assumption) | assumption)
                                        obtain ⟨ad540, A540_0, c540_0, e540, hx540_0, hl540_0, hi540_0⟩ := at_L5 HR0.out x11_4 p540 q540
                                        obtain rfl : ad533 = ad540 := (by injection e540)
                                        replace hx540_0 := (HB.out.cell (World.block_lt_of_cell? w _ hx540_0)).trans hx540_0
                                        have HR540_0 := Aside0.mk hi540_0
                                        have HC540_0 := Aside0.mk hl540_0
                                        clear hi540_0 hl540_0
                                        replace p540 := eq_true p540
                                        replace q540 := eq_true q540
                                        have ea_ := Option.some.inj (hx538_0.symm.trans hx540_0)
                                        injection ea_ with ea_ en_ ec_
                                        subst ea_
                                        subst ec_
                                        clear en_
                                        have p541 : 0 ≤ (x8_3 : Int) := of_decide_eq_true (by first | (with_reducible assumption) | assumption)
                                        have q541 : x8_3 < ((rd_L5 l0 x11_4).length : Int) := of_decide_eq_true (by first | (with_reducible assumption) | assumption)
                                        obtain ⟨ad541, e541, hx541_0⟩ := Kd.at_int HR540_0.out x8_3 p541 q541
                                        cases e541
                                        replace hx541_0 := (HB.out.cell (World.block_lt_of_cell? w _ hx541_0)).trans hx541_0
                                        replace p541 := eq_true p541
                                        replace q541 := eq_true q541
                                        have p550 : 0 ≤ (x11_4 : Int) := of_decide_eq_true (by first | (with_reducible assumption) | assumption)
                                        have q550 : x11_4 < (l0.length : Int) := of_decide_eq_true (by first | (with_reducible assumption) | assumption)
                                        obtain ⟨ad550, A550_0, c550_0, e550, hx550_0, hl550_0, hi550_0⟩ := at_L5 HR0.out x11_4 p550 q550
                                        obtain rfl : ad533 = ad550 := (by injection e550)
                                        replace hx550_0 := (HB.out.cell (World.block_lt_of_cell? w _ hx550_0)).trans hx550_0
                                        have HR550_0 := Aside0.mk hi550_0
                                        have HC550_0 := Aside0.mk hl550_0
                                        clear hi550_0 hl550_0
                                        replace p550 := eq_true p550
                                        replace q550 := eq_true q550
                                        have ea_ := Option.some.inj (hx538_0.symm.trans hx550_0)
                                        injection ea_ with ea_ en_ ec_
                                        subst ea_
                                        subst ec_
                                        clear en_
                                        have p551 : 0 ≤ (x8_3 : Int) := of_decide_eq_true (by first | (with_reducible assumption) | assumption)
                                        have q551 : x8_3 < ((rd_L5 l0 x11_4).length : Int) := of_decide_eq_true (by first | (with_reducible assumption) | assumption)
                                        obtain ⟨ad551, e551, hx551_0⟩ := Kd.at_int HR550_0.out x8_3 p551 q551
                                        cases e551
                                        replace hx551_0 := (HB.out.cell (World.block_lt_of_cell? w _ hx551_0)).trans hx551_0
                                        replace p551 := eq_true p551
                                        replace q551 := eq_true q551
                                        go_wp2
                                        repeat (go_quiet (fail); try go_wp2)
                                        go_roundg k4
                                        case measure => have := HK1.out; have := HK2.out; have := HK3.out; have := HK4.out; omega
                                        case rel => exact ⟨(wrap64 (x10_4 + (rd (rd_L5 l0 x11_4) x8_3))), (wrap64 (x11_4 + 1)), (x535000_4), (x535001_4), (u535000), (u535001), (by first | rfl | (simp; done) | (simp [*]; done)), (by first | rfl | (simp; done) | (simp [*]; done)), H', ⟨by have := HK1.out; have := HK2.out; have := HK3.out; have := HK4.out; omega⟩, ⟨by (with_reducible repeat (first | apply Kd.S_alloc | apply Kd.S_drewN | apply Kd.S_drew)); exact HO_7.out⟩, ⟨by (with_reducible repeat (first | apply Kd.R_alloc | apply Kd.R_drewN | apply Kd.R_drew)); exact HO_535000.out⟩, ⟨by (with_reducible repeat (first | apply Kd.R_alloc | apply Kd.R_drewN | apply Kd.R_drew)); exact HO_535001.out⟩, ⟨by (with_reducible repeat (first | refine blk_drewN ?_ _ | refine blk_drew ?_ | refine blk_alloc ?_ _)); exact BK534.out⟩, ⟨by repeat (first | (with_reducible first | exact HB.out | apply below_alloc | apply pw_below_drewN | apply below_drew1 | refine below_set ?_ GE534.out) | exact HB.out)⟩⟩
                                  · rw [if_neg c24] at H
                                    exact absurd H (by simp)
                                · rw [if_neg c23] at H
                                  exact absurd H (by simp)
                              · rw [if_neg c22] at H
                                exact absurd H (by simp)
                            · rw [if_neg c21] at H
                              have c21b0 : decide (x11_4 < (l0.length : Int)) = false := decide_eq_false c21
                              clear c21
                              by_cases c46 : x10_4 = 0
                              · rw [if_pos c46] at H
                                have c46b0 : (x10_4 == 0) = true := beq_iff_eq.mpr c46
                                have c46b1 : (x10_4 != 0) = false := bne_eq_false_iff_eq.mpr c46
                                clear c46
                                by_cases c47 : x7_3.length < 2932031007402
                                · rw [if_pos c47] at H
                                  have LMc47 := Aside0.mk c47
                                  clear c47
                                  obtain ⟨y535, hy535⟩ : ∃ y_ : List (S53), y_ = (x7_3 ++ [(⟨x535000_4, x535001_4⟩ : S53)]) := ⟨_, rfl⟩
                                  replace H : (verditerref06_FromMarks.l3 k4 l0 y535 (wrap64 (x8_3 + 1))) = some (r1, r2) := by first | (rw [hy535]; with_reducible exact H) | (have H2_ := (Option.bind_some _ _).symm.trans H; rw [hy535]; with_reducible exact H2_) | (have H2_ := (Option.bind_some _ _).symm.trans H; with_reducible exact H2_) | with_reducible exact H | (rw [hy535]; exact H) | exact H
                                  have Ny535 := Aside0.mk hy535
                                  clear hy535
                                  have H' := Aside0.mk H
                                  clear H
                                  have hcz48_0 : wr.cell? ⟨gb534, 0, none⟩ = some (u535000) := (blk_cell BK534.out 0).trans rfl
                                  have hcz48_1 : wr.cell? ⟨gb534, 1, none⟩ = some (u535001) := (blk_cell BK534.out 1).trans rfl
                                  have hfz48_0 := blk_frozen BK534.out 0
                                  have hfz48_1 := blk_frozen BK534.out 1
                                  obtain ⟨Ao50, co50, eo50⟩ := Kd.R_slice HO_535000.out
                                  subst eo50
                                  obtain ⟨Ao51, co51, eo51⟩ := Kd.R_slice HO_535001.out
                                  subst eo51
                                  go_wp2_with (first | ((with_reducible refine gate_builtin (b := .append) (xs := #[.tmp 116, .tmp 118]) rfl ?_); at_builtin; refine Kd.S_append k53 (w0 := w) w.heap.size rfl (.tmp 116) (.tmp 118) 22 53 (.agg #[(.slice none 0 0), (.slice none 0 0)]) 48 rfl Try.underlying22 info53 rfl (by decide) (by omega) u7 x7_3 (⟨x535000_4, x535001_4⟩ : S53) [.slice Ao50 x535000_4.length co50, .slice Ao51 x535001_4.length co51] (fun k_ => k_ ≠ gb534) (fun k_ => some k_ = (.slice Ao50 x535000_4.length co50 : Value).ownBlock ∨ some k_ = (.slice Ao51 x535001_4.length co51 : Value).ownBlock) rfl rfl ?aP (fun k_ hk_ => hk_.elim (fun h_ => ((Kd.R_mono (ok' := fun k_ => ((fun k_ => k_ ≠ gb534)) k_ ∧ some k_ ≠ (u7 : Value).ownBlock) (Kd.R_types (Kd.R_apart' (HO_535000.out) (Kd.S_typed HO_7.out) (by decide)) BK534.out (by decide)) (fun k_ hk => ⟨hk.2, hk.1.2⟩))).1 k_ h_.symm) (fun h_ => ((Kd.R_mono (ok' := fun k_ => ((fun k_ => k_ ≠ gb534)) k_ ∧ some k_ ≠ (u7 : Value).ownBlock) (Kd.R_types (Kd.R_apart' (HO_535001.out) (Kd.S_typed HO_7.out) (by decide)) BK534.out (by decide)) (fun k_ hk => ⟨hk.2, hk.1.2⟩))).1 k_ h_.symm)) ?aF ?aO ?aB ?aS ?aL ?_; (case aP => exact k53_mkM _ _ _ (⟨x535000_4, x535001_4⟩ : S53) (Kd.R_mono (Kd.R_tight rfl (Kd.R_mono (ok' := fun k_ => ((fun k_ => k_ ≠ gb534)) k_ ∧ some k_ ≠ (u7 : Value).ownBlock) (Kd.R_types (Kd.R_apart' (HO_535000.out) (Kd.S_typed HO_7.out) (by decide)) BK534.out (by decide)) (fun k_ hk => ⟨hk.2, hk.1.2⟩))) (fun _ h_ => Or.inl h_)) (Kd.R_mono (Kd.R_tight rfl (Kd.R_mono (ok' := fun k_ => ((fun k_ => k_ ≠ gb534)) k_ ∧ some k_ ≠ (u7 : Value).ownBlock) (Kd.R_types (Kd.R_apart' (HO_535001.out) (Kd.S_typed HO_7.out) (by decide)) BK534.out (by decide)) (fun k_ hk => ⟨hk.2, hk.1.2⟩))) (fun _ h_ => Or.inr (h_)))); (case aB => exact (by repeat (first | (with_reducible first | exact HB.out | apply below_alloc | apply pw_below_drewN | apply below_drew1 | refine below_set ?_ GE534.out) | exact HB.out))); (case aF => exact (fun k_ hk => Kd.freshB (g := gb534) (o := .cells #[.slice Ao50 x535000_4.length co50, .slice Ao51 x535001_4.length co51] 53 (0, 0)) (by (with_reducible repeat (first | refine blk_drewN ?_ _ | refine blk_drew ?_ | refine blk_alloc ?_ _)); exact BK534.out) k_ hk)); (case aO => exact (by (with_reducible repeat (first | apply Kd.S_alloc | apply Kd.S_drewN | apply Kd.S_drew)); exact Kd.S_mono HO_7.out (fun k_ hk => ⟨hk.2.2, fun e_ => e_.elim (fun h_ => hk.1 h_) (fun h_ => hk.2.1 h_)⟩))); (case aS => exact (below_size (by repeat (first | (with_reducible first | exact HB.out | apply below_alloc | apply pw_below_drewN | apply below_drew1 | refine below_set ?_ GE534.out) | exact HB.out)))); (case aL => have := LMc47.out; omega); intro v536 w49 ho hb hg hat; rw [← Ny535.out] at ho; have n0_ := Aside0.mk (blk_grown (g := gb534) (o := .cells #[.slice Ao50 x535000_4.length co50, .slice Ao51 x535001_4.length co51] 53 (0, 0)) (by (with_reducible repeat (first | refine blk_drewN ?_ _ | refine blk_drew ?_ | refine blk_alloc ?_ _)); exact BK534.out) hg (Kd.S_away HO_7.out (fun _ hk => hk.2.2))); have n1_ := Aside0.mk (hb); have n2_ := Aside0.mk (ho); clear BK534; clear HB; clear HO_7; clear HO_535000; clear HO_535001; have BK534 := n0_; have HB := n1_; have HO537 := n2_; clear n0_ n1_ n2_; clear ho hb hg hat))
                                  repeat (go_quiet (first | ((with_reducible refine gate_builtin (b := .append) (xs := #[.tmp 116, .tmp 118]) rfl ?_); at_builtin; refine Kd.S_append k53 (w0 := w) w.heap.size rfl (.tmp 116) (.tmp 118) 22 53 (.agg #[(.slice none 0 0), (.slice none 0 0)]) 48 rfl Try.underlying22 info53 rfl (by decide) (by omega) u7 x7_3 (⟨x535000_4, x535001_4⟩ : S53) [.slice Ao50 x535000_4.length co50, .slice Ao51 x535001_4.length co51] (fun k_ => k_ ≠ gb534) (fun k_ => some k_ = (.slice Ao50 x535000_4.length co50 : Value).ownBlock ∨ some k_ = (.slice Ao51 x535001_4.length co51 : Value).ownBlock) rfl rfl ?aP (fun k_ hk_ => hk_.elim (fun h_ => ((Kd.R_mono (ok' := fun k_ => ((fun k_ => k_ ≠ gb534)) k_ ∧ some k_ ≠ (u7 : Value).ownBlock) (Kd.R_types (Kd.R_apart' (HO_535000.out) (Kd.S_typed HO_7.out) (by decide)) BK534.out (by decide)) (fun k_ hk => ⟨hk.2, hk.1.2⟩))).1 k_ h_.symm) (fun h_ => ((Kd.R_mono (ok' := fun k_ => ((fun k_ => k_ ≠ gb534)) k_ ∧ some k_ ≠ (u7 : Value).ownBlock) (Kd.R_types (Kd.R_apart' (HO_535001.out) (Kd.S_typed HO_7.out) (by decide)) BK534.out (by decide)) (fun k_ hk => ⟨hk.2, hk.1.2⟩))).1 k_ h_.symm)) ?aF ?aO ?aB ?aS ?aL ?_; (case aP => exact k53_mkM _ _ _ (⟨x535000_4, x535001_4⟩ : S53) (Kd.R_mono (Kd.R_tight rfl (Kd.R_mono (ok' := fun k_ => ((fun k_ => k_ ≠ gb534)) k_ ∧ some k_ ≠ (u7 : Value).ownBlock) (Kd.R_types (Kd.R_apart' (HO_535000.out) (Kd.S_typed HO_7.out) (by decide)) BK534.out (by decide)) (fun k_ hk => ⟨hk.2, hk.1.2⟩))) (fun _ h_ => Or.inl h_)) (Kd.R_mono (Kd.R_tight rfl (Kd.R_mono (ok' := fun k_ => ((fun k_ => k_ ≠ gb534)) k_ ∧ some k_ ≠ (u7 : Value).ownBlock) (Kd.R_types (Kd.R_apart' (HO_535001.out) (Kd.S_typed HO_7.out) (by decide)) BK534.out (by decide)) (fun k_ hk => ⟨hk.2, hk.1.2⟩))) (fun _ h_ => Or.inr (h_)))); (case aB => exact (by repeat (first | (with_reducible first | exact HB.out | apply below_alloc | apply pw_below_drewN | apply below_drew1 | refine below_set ?_ GE534.out) | exact HB.out))); (case aF => exact (fun k_ hk => Kd.freshB (g := gb534) (o := .cells #[.slice Ao50 x535000_4.length co50, .slice Ao51 x535001_4.length co51] 53 (0, 0)) (by (with_reducible repeat (first | refine blk_drewN ?_ _ | refine blk_drew ?_ | refine blk_alloc ?_ _)); exact BK534.out) k_ hk)); (case aO => exact (by (with_reducible repeat (first | apply Kd.S_alloc | apply Kd.S_drewN | apply Kd.S_drew)); exact Kd.S_mono HO_7.out (fun k_ hk => ⟨hk.2.2, fun e_ => e_.elim (fun h_ => hk.1 h_) (fun h_ => hk.2.1 h_)⟩))); (case aS => exact (below_size (by repeat (first | (with_reducible first | exact HB.out | apply below_alloc | apply pw_below_drewN | apply below_drew1 | refine below_set ?_ GE534.out) | exact HB.out)))); (case aL => have := LMc47.out; omega); intro v536 w49 ho hb hg hat; rw [← Ny535.out] at ho; have n0_ := Aside0.mk (blk_grown (g := gb534) (o := .cells #[.slice Ao50 x535000_4.length co50, .slice Ao51 x535001_4.length co51] 53 (0, 0)) (by (with_reducible repeat (first | refine blk_drewN ?_ _ | refine blk_drew ?_ | refine blk_alloc ?_ _)); exact BK534.out) hg (Kd.S_away HO_7.out (fun _ hk => hk.2.2))); have n1_ := Aside0.mk (hb); have n2_ := Aside0.mk (ho); clear BK534; clear HB; clear HO_7; clear HO_535000; clear HO_535001; have BK534 := n0_; have HB := n1_; have HO537 := n2_; clear n0_ n1_ n2_; clear ho hb hg hat)); try go_wp2_with (first | ((with_reducible refine gate_builtin (b := .append) (xs := #[.tmp 116, .tmp 118]) rfl ?_); at_builtin; refine Kd.S_append k53 (w0 := w) w.heap.size rfl (.tmp 116) (.tmp 118) 22 53 (.agg #[(.slice none 0 0), (.slice none 0 0)]) 48 rfl Try.underlying22 info53 rfl (by decide) (by omega) u7 x7_3 (⟨x535000_4, x535001_4⟩ : S53) [.slice Ao50 x535000_4.length co50, .slice Ao51 x535001_4.length co51] (fun k_ => k_ ≠ gb534) (fun k_ => some k_ = (.slice Ao50 x535000_4.length co50 : Value).ownBlock ∨ some k_ = (.slice Ao51 x535001_4.length co51 : Value).ownBlock) rfl rfl ?aP (fun k_ hk_ => hk_.elim (fun h_ => ((Kd.R_mono (ok' := fun k_ => ((fun k_ => k_ ≠ gb534)) k_ ∧ some k_ ≠ (u7 : Value).ownBlock) (Kd.R_types (Kd.R_apart' (HO_535000.out) (Kd.S_typed HO_7.out) (by decide)) BK534.out (by decide)) (fun k_ hk => ⟨hk.2, hk.1.2⟩))).1 k_ h_.symm) (fun h_ => ((Kd.R_mono (ok' := fun k_ => ((fun k_ => k_ ≠ gb534)) k_ ∧ some k_ ≠ (u7 : Value).ownBlock) (Kd.R_types (Kd.R_apart' (HO_535001.out) (Kd.S_typed HO_7.out) (by decide)) BK534.out (by decide)) (fun k_ hk => ⟨hk.2, hk.1.2⟩))).1 k_ h_.symm)) ?aF ?aO ?aB ?aS ?aL ?_; (case aP => exact k53_mkM _ _ _ (⟨x535000_4, x535001_4⟩ : S53) (Kd.R_mono (Kd.R_tight rfl (Kd.R_mono (ok' := fun k_ => ((fun k_ => k_ ≠ gb534)) k_ ∧ some k_ ≠ (u7 : Value).ownBlock) (Kd.R_types (Kd.R_apart' (HO_535000.out) (Kd.S_typed HO_7.out) (by decide)) BK534.out (by decide)) (fun k_ hk => ⟨hk.2, hk.1.2⟩))) (fun _ h_ => Or.inl h_)) (Kd.R_mono (Kd.R_tight rfl (Kd.R_mono (ok' := fun k_ => ((fun k_ => k_ ≠ gb534)) k_ ∧ some k_ ≠ (u7 : Value).ownBlock) (Kd.R_types (Kd.R_apart' (HO_535001.out) (Kd.S_typed HO_7.out) (by decide)) BK534.out (by decide)) (fun k_ hk => ⟨hk.2, hk.1.2⟩))) (fun _ h_ => Or.inr (h_)))); (case aB => exact (by repeat (first | (with_reducible first | exact HB.out | apply below_alloc | apply pw_below_drewN | apply below_drew1 | refine below_set ?_ GE534.out) | exact HB.out))); (case aF => exact (fun k_ hk => Kd.freshB (g := gb534) (o := .cells #[.slice Ao50 x535000_4.length co50, .slice Ao51 x535001_4.length co51] 53 (0, 0)) (by (with_reducible repeat (first | refine blk_drewN ?_ _ | refine blk_drew ?_ | refine blk_alloc ?_ _)); exact BK534.out) k_ hk)); (case aO => exact (by (with_reducible repeat (first | apply Kd.S_alloc | apply Kd.S_drewN | apply Kd.S_drew)); exact Kd.S_mono HO_7.out (fun k_ hk => ⟨hk.2.2, fun e_ => e_.elim (fun h_ => hk.1 h_) (fun h_ => hk.2.1 h_)⟩))); (case aS => exact (below_size (by repeat (first | (with_reducible first | exact HB.out | apply below_alloc | apply pw_below_drewN | apply below_drew1 | refine below_set ?_ GE534.out) | exact HB.out)))); (case aL => have := LMc47.out; omega); intro v536 w49 ho hb hg hat; rw [← Ny535.out] at ho; have n0_ := Aside0.mk (blk_grown (g := gb534) (o := .cells #[.slice Ao50 x535000_4.length co50, .slice Ao51 x535001_4.length co51] 53 (0, 0)) (by (with_reducible repeat (first | refine blk_drewN ?_ _ | refine blk_drew ?_ | refine blk_alloc ?_ _)); exact BK534.out) hg (Kd.S_away HO_7.out (fun _ hk => hk.2.2))); have n1_ := Aside0.mk (hb); have n2_ := Aside0.mk (ho); clear BK534; clear HB; clear HO_7; clear HO_535000; clear HO_535001; have BK534 := n0_; have HB := n1_; have HO537 := n2_; clear n0_ n1_ n2_; clear ho hb hg hat)))
                                  go_roundg k4
                                  case measure => have := HK1.out; have := HK2.out; have := HK3.out; have := HK4.out; omega
                                  case rel => exact ⟨(y535), (wrap64 (x8_3 + 1)), (by first | rfl | (simp; done) | (simp [*]; done)), H', ⟨by have := HK1.out; have := HK2.out; have := HK3.out; have := HK4.out; omega⟩, ⟨by (with_reducible repeat (first | apply Kd.S_alloc | apply Kd.S_drewN | apply Kd.S_drew)); exact Kd.S_mono HO537.out (fun _ hk => trivial)⟩, ⟨by repeat (first | (with_reducible first | exact HB.out | apply below_alloc | apply pw_below_drewN | apply below_drew1 | refine below_set ?_ GE534.out) | exact HB.out)⟩⟩
                                · rw [if_neg c47] at H
                                  exact absurd H (by simp)
                              · rw [if_neg c46] at H
                                have c46b0 : (x10_4 == 0) = false := beq_eq_false_iff_ne.mpr c46
                                have c46b1 : (x10_4 != 0) = true := bne_iff_ne.mpr c46
                                simp only [Option.some.injEq, Prod.mk.injEq] at H
                                obtain ⟨rfl, rfl⟩ := H
                                go_wp2
                                repeat (go_quiet (fail); try go_wp2)
                                go_ret2
                                exact ⟨_, by first | rfl | (simp [errW_none, errW_some] <;> rfl) | (simp [*, errW_none, errW_some] <;> rfl), by first | exact Kd.S_nil _ _ _ _ _ | exact Kd.N_nil _ _ _ _ _ | exact Kd.V_nil _ _ _ _ _ | exact Kd.Q_nil _ _ _ _ _ | exact Kd.R_nil _ _ _ _ _, by repeat (first | (with_reducible first | exact HB.out | apply below_alloc | apply pw_below_drewN | apply below_drew1 | refine below_set ?_ GE534.out) | exact HB.out)⟩
                      · rw [if_neg c18] at H
                        have c18b0 : decide (x8_3 < ((rd_L5 l0 0).length : Int)) = false := decide_eq_false c18
                        clear c18
                        simp only [Option.some.injEq, Prod.mk.injEq] at H
                        obtain ⟨rfl, rfl⟩ := H
                        have p533 : 0 ≤ (0 : Int) := (by omega)
                        have q533 : 0 < (l0.length : Int) := of_decide_eq_true (by first | (with_reducible assumption) | assumption)
                        obtain ⟨ad533, A533_0, c533_0, e533, hx533_0, hl533_0, hi533_0⟩ := at_L5 HR0.out 0 p533 q533
                        cases e533
                        have qi533 : (0 < l0.length) = True := eq_true (by omega)
                        (try rw [show ((0 : Int)).toNat = 0 from rfl] at hx533_0)
                        (try rw [Addr.add_zero'] at hx533_0)
                        replace hx533_0 := (HB.out.cell (World.block_lt_of_cell? w _ hx533_0)).trans hx533_0
                        have HR533_0 := Aside0.mk hi533_0
                        have HC533_0 := Aside0.mk hl533_0
                        clear hi533_0 hl533_0
                        replace p533 := eq_true p533
                        replace q533 := eq_true q533
                        go_wp2
                        repeat (go_quiet (fail); try go_wp2)
                        go_ret2
                        exact ⟨_, by first | rfl | (simp [errW_none, errW_some] <;> rfl) | (simp [*, errW_none, errW_some] <;> rfl), by (with_reducible repeat (first | apply Kd.S_alloc | apply Kd.S_drewN | apply Kd.S_drew)); exact HO_7.out, by repeat (first | (with_reducible first | exact HB.out | apply below_alloc | apply pw_below_drewN | apply below_drew1) | exact HB.out)⟩
                    · rw [if_neg c17] at H
                      exact absurd H (by simp)
  · replace c3 := Bool.eq_false_iff.mpr c3
    subst c3
    have H1 : (some (([] : List (S53)), 3)) = some (r1, r2) := by rw [if_neg (show ¬ (false = true) by decide)] at H; exact H
    clear H
    have H := H1
    clear H1
    simp only [Option.some.injEq, Prod.mk.injEq] at H
    obtain ⟨rfl, rfl⟩ := H
    go_enter Try.func69, Try.ntmps69
    go_wp2_with (first | (go_at_call 82; (with_reducible refine (verditerref06_within.calls (l0.length : Int) 1 13 false _ A2.out).mono ?_); rintro e w' ⟨rfl, ⟨nd, rfl⟩⟩; (try first | exact ⟨rfl, _, World.drewN_drewN _ _ _⟩ | exact ⟨rfl, _, Eq.trans (World.drewN_drewN _ _ _) (congrArg (World.drewN _) (Nat.add_assoc _ _ _))⟩)))
    repeat (go_quiet (first | (go_at_call 82; (with_reducible refine (verditerref06_within.calls (l0.length : Int) 1 13 false _ A2.out).mono ?_); rintro e w' ⟨rfl, ⟨nd, rfl⟩⟩; (try first | exact ⟨rfl, _, World.drewN_drewN _ _ _⟩ | exact ⟨rfl, _, Eq.trans (World.drewN_drewN _ _ _) (congrArg (World.drewN _) (Nat.add_assoc _ _ _))⟩))); try go_wp2_with (first | (go_at_call 82; (with_reducible refine (verditerref06_within.calls (l0.length : Int) 1 13 false _ A2.out).mono ?_); rintro e w' ⟨rfl, ⟨nd, rfl⟩⟩; (try first | exact ⟨rfl, _, World.drewN_drewN _ _ _⟩ | exact ⟨rfl, _, Eq.trans (World.drewN_drewN _ _ _) (congrArg (World.drewN _) (Nat.add_assoc _ _ _))⟩))))
    go_ret2
    exact ⟨_, by first | rfl | (simp [errW_none, errW_some] <;> rfl) | (simp [*, errW_none, errW_some] <;> rfl), by first | exact Kd.S_nil _ _ _ _ _ | exact Kd.N_nil _ _ _ _ _ | exact Kd.V_nil _ _ _ _ _ | exact Kd.Q_nil _ _ _ _ _ | exact Kd.R_nil _ _ _ _ _, by repeat (first | (with_reducible first | exact HB.out | apply below_alloc | apply pw_below_drewN | apply below_drew1) | exact HB.out)⟩

end Go.Proofs.Ytdbeochifofdoaa.X
end

section
/-! weigh.Make. -/
namespace Go.Proofs.Ytdbeochifofdoaa.X
open Go.RowKit Go.Proofs.YtdbeochifofdoaaW.PrintWords Go.Proofs.YtdbeochifofdoaaW.PrintLast Go.Proofs.YtdbeochifofdoaaW.PrintMore
set_option linter.unusedVariables false
set_option linter.unusedSimpArgs false

/-- The numbers, from n on, of the marks that have s at k. -/
def sideOf (k : Nat) (s : Int) : Nat → List S70 → List Int
  | _, [] => []
  | n, m :: q => if getk m k = s then (n : Int) :: sideOf k s (n + 1) q else sideOf k s (n + 1) q
theorem sideOf_len (k : Nat) (s : Int) : ∀ (l : List S70) (n : Nat), (sideOf k s n l).length ≤ l.length
  | [], _ => Nat.le_refl _
  | m :: q, n => by
    have := sideOf_len k s q (n + 1)
    unfold sideOf
    split
    · simp only [List.length_cons]; omega
    · simp only [List.length_cons]; omega
def pairOf (l : List S70) (k : Nat) : S53 := ⟨sideOf k 1 0 l, sideOf k (-1) 0 l⟩
def weigh_Make.f (a0 a1 : Int) : Option (List S53 × Bool × Int) :=
  if (1 ≤ a0 ∧ a0 ≤ 13) ∧ 0 ≤ a1 ∧ a1 ≤ 3 then
    (if (searchR a0 a1.toNat).2 = true then some ((List.range a1.toNat).map (pairOf (searchR a0 a1.toNat).1), true, 0) else some ([], false, 0))
  else some ([], false, 1)
theorem chosenL_le : ∀ (l : List S70) (c : List Int), (chosenL l c).length ≤ l.length
  | [], _ => by simp [chosenL]
  | m :: ms, [] => by simp [chosenL]
  | m :: ms, x :: xs => by
    have := chosenL_le ms xs
    unfold chosenL
    split
    · simp only [List.length_cons]; omega
    · split <;> simp only [List.length_cons] <;> omega
theorem searchR_len (a0 : Int) (w : Nat) (h : w ≤ 3) : (searchR a0 w).1.length ≤ 13 := by
  unfold searchR
  split
  · exact Nat.le_trans (chosenL_le _ _) (classC_len w h)
  · simp

theorem counted_yes {a b : Int} (h : (1 ≤ a ∧ a ≤ 13) ∧ 0 ≤ b ∧ b ≤ 3) : weigh_counted.f a b = some 0 := by
  unfold weigh_counted.f
  simp [within_f, h]
theorem counted_no {a b : Int} (h : ¬ ((1 ≤ a ∧ a ≤ 13) ∧ 0 ≤ b ∧ b ≤ 3)) : weigh_counted.f a b = some 1 := by
  unfold weigh_counted.f
  simp only [within_f, Option.bind_some, Bool.and_eq_true, decide_eq_true_eq]
  by_cases h1 : 1 ≤ a ∧ a ≤ 13
  · rw [if_pos h1, if_neg (fun h2 => h ⟨h1, h2⟩)]
  · rw [if_neg h1]

/-- The two sides that are being written, in their variable g. -/
def MkS (wo : World) (g : Nat) (W : World) (vL vR : Value) (xs ys : List Int) : Prop :=
  W.heap[g]? = some (.cells #[vL, vR] 53 (0, 0)) ∧ Kd.R (Kd.int .i64) 3 W wo.heap.size (fun q => q ≠ g ∧ some q ≠ vR.ownBlock) vL xs ∧
    Kd.R (Kd.int .i64) 3 W wo.heap.size (fun q => q ≠ g ∧ some q ≠ vL.ownBlock) vR ys ∧ Below wo.heap.size wo W ∧ g < W.heap.size ∧ wo.heap.size ≤ g
theorem MkS.left {wo : World} {g : Nat} {W w3 : World} {vL vR v1 : Value} {xs ys zs : List Int} (h : MkS wo g W vL vR xs ys)
    (hR : Kd.R (Kd.int .i64) 3 w3 wo.heap.size (fun q => q ≠ g ∧ some q ≠ vR.ownBlock) v1 zs) (hB : Below wo.heap.size wo w3) (hG : W.grownBy w3 vL.ownBlock)
    (hat : v1.ownBlock = vL.ownBlock ∨ ∃ b, v1.ownBlock = some b ∧ W.heap.size ≤ b) : MkS wo g (w3.setCell ⟨g, 0, none⟩ v1) v1 vR zs ys := by
  obtain ⟨h1, h2, h3, h4, h5, h6⟩ := h
  have hX := blk_grown h1 hG (Kd.R_away h2 (fun q hq => hq.1))
  have hX1 := blk_set hX 0 v1
  refine ⟨hX1, Kd.R_far hR (fun q hq => hq.1) v1, ?_, hB.setCell h6 v1, by simpa using blk_lt hX, h6⟩
  refine Kd.R_far ?_ (fun q hq => hq.1) v1
  refine Kd.R_mono (Kd.R_grown (Kd.R_bound h3) hG (fun k hk => hk.1.2)) (fun k hk => ⟨hk.1.1, fun he => ?_⟩)
  rcases hat with e | ⟨b, e, hb⟩
  · exact hk.1.2 (he.trans e)
  · rw [e] at he
    have := hk.2.2.1
    injection he with he
    omega
theorem MkS.right {wo : World} {g : Nat} {W w3 : World} {vL vR v1 : Value} {xs ys zs : List Int} (h : MkS wo g W vL vR xs ys)
    (hR : Kd.R (Kd.int .i64) 3 w3 wo.heap.size (fun q => q ≠ g ∧ some q ≠ vL.ownBlock) v1 zs) (hB : Below wo.heap.size wo w3) (hG : W.grownBy w3 vR.ownBlock)
    (hat : v1.ownBlock = vR.ownBlock ∨ ∃ b, v1.ownBlock = some b ∧ W.heap.size ≤ b) : MkS wo g (w3.setCell ⟨g, 1, none⟩ v1) vL v1 xs zs := by
  obtain ⟨h1, h2, h3, h4, h5, h6⟩ := h
  have hX := blk_grown h1 hG (Kd.R_away h3 (fun q hq => hq.1))
  have hX1 := blk_set hX 1 v1
  refine ⟨hX1, ?_, Kd.R_far hR (fun q hq => hq.1) v1, hB.setCell h6 v1, by simpa using blk_lt hX, h6⟩
  refine Kd.R_far ?_ (fun q hq => hq.1) v1
  refine Kd.R_mono (Kd.R_grown (Kd.R_bound h2) hG (fun k hk => hk.1.2)) (fun k hk => ⟨hk.1.1, fun he => ?_⟩)
  rcases hat with e | ⟨b, e, hb⟩
  · exact hk.1.2 (he.trans e)
  · rw [e] at he
    have := hk.2.2.1
    injection he with he
    omega
theorem MkS.alloc {wo : World} {g : Nat} {W : World} {vL vR : Value} {xs ys : List Int} (h : MkS wo g W vL vR xs ys) (o : Obj) : MkS wo g (W.alloc o) vL vR xs ys := by
  obtain ⟨h1, h2, h3, h4, h5, h6⟩ := h
  exact ⟨blk_alloc h1 _, Kd.R_alloc h2 _, Kd.R_alloc h3 _, h4.alloc h4.size _, by simp; omega, h6⟩

set_option maxHeartbeats 8000000 in
set_option maxRecDepth 100000 in
theorem weigh_Make.calls (a0 a1 : Int) (r1 : List S53) (r2 : Bool) (r3 : Int) (w : World) (h : weigh_Make.f a0 a1 = some (r1, r2, r3)) :
    Calls Try.prog 31 #[.int .i64 a0, .int .i64 a1] w fun e w' => ∃ v0_ : Value, e = .returned (.tuple #[v0_, .bool r2, .int .i64 r3]) ∧ Kd.N k53 53 w' w.heap.size (fun k_ => w.heap.size ≤ k_) v0_ r1 ∧ Below w.heap.size w w' := by
  unfold weigh_Make.f at h
  by_cases hp : (1 ≤ a0 ∧ a0 ≤ 13) ∧ 0 ≤ a1 ∧ a1 ≤ 3
  rotate_left
  · rw [if_neg hp] at h
    simp only [Option.some.injEq, Prod.mk.injEq] at h
    obtain ⟨rfl, rfl, rfl⟩ := h
    have HF := Aside0.mk (counted_no hp)
    clear hp
    go_enter Try.func31, Try.ntmps31
    go_wp2_with (first | (go_at_call 49; (with_reducible refine (weigh_counted.calls a0 a1 1 _ HF.out).mono ?_); rintro e w' ⟨rfl, ⟨nd, rfl⟩⟩))
    go_ret3
    exact ⟨_, rfl, Kd.N_nil _ _ _ _ _, pw_below_drewN (Below.refl _ _) _⟩
  rw [if_pos hp] at h
  have HC := Aside0.mk (counted_yes hp)
  have hlen := searchR_len a0 a1.toNat (by omega)
  have HS : Aside0 (weigh_search.f a0 a1 = some ((searchR a0 a1.toNat).1, (searchR a0 a1.toNat).2)) := ⟨by unfold weigh_search.f; rw [if_pos hp]⟩
  obtain ⟨n, rfl⟩ := Int.eq_ofNat_of_zero_le hp.2.1
  have hn3 : n ≤ 3 := by omega
  clear hp
  rw [show ((n : Nat) : Int).toNat = n from rfl] at h hlen HS
  generalize searchR a0 n = SR at h hlen HS
  obtain ⟨L, b⟩ := SR
  dsimp only at h hlen HS
  cases b with
  | false =>
    rw [if_neg (by simp)] at h
    simp only [Option.some.injEq, Prod.mk.injEq] at h
    obtain ⟨rfl, rfl, rfl⟩ := h
    go_enter Try.func31, Try.ntmps31
    go_upto_region 4 with (first | (go_at_call 49; (with_reducible refine (weigh_counted.calls a0 n 0 _ HC.out).mono ?_); rintro e w' ⟨rfl, ⟨nd, rfl⟩⟩))
    go_wp2_with fail
    refine (weigh_search.calls a0 n L false _ HS.out).mono ?_
    rintro e w1 ⟨v, rfl, hO, hb⟩
    have HB1 := Aside0.mk ((pw_below_drewN (Below.refl _ w) _).trans hb)
    clear hO hb
    go_wp2
    go_ret3
    exact ⟨_, rfl, Kd.N_nil _ _ _ _ _, HB1.out⟩
  | true =>
    rw [if_pos rfl] at h
    simp only [Option.some.injEq, Prod.mk.injEq] at h
    obtain ⟨rfl, rfl, rfl⟩ := h
    go_enter Try.func31, Try.ntmps31
    go_upto_region 4 with (first | (go_at_call 49; (with_reducible refine (weigh_counted.calls a0 n 0 _ HC.out).mono ?_); rintro e w' ⟨rfl, ⟨nd, rfl⟩⟩))
    go_wp2_with fail
    refine (weigh_search.calls a0 n L true _ HS.out).mono ?_
    rintro e w2 ⟨v, rfl, hO, hb⟩
    obtain ⟨A, c, rfl⟩ := Kd.R_slice hO
    obtain ⟨_, hLc, hC⟩ := Kd.R_reads' hO
    have HB2 := Aside0.mk ((pw_below_drewN (Below.refl _ w) _).trans hb)
    have HL := Aside0.mk hC
    clear hO hC hb
    go_wp2
    go_loopg [10, 30] n (fun gg v10 s wr => ∃ (k : Nat) (out : List S53), k ≤ n ∧ n - k ≤ gg ∧ s = .int .i64 k ∧ Aside0 (Below w2.heap.size w2 wr) ∧ Aside0 (Kd.N k53 53 wr w2.heap.size (fun k_ => w2.heap.size ≤ k_) v10 out) ∧ Aside0 (out = (List.range k).map (pairOf L)))
    case atStart => exact ⟨0, [], Nat.zero_le _, by omega, rfl, ⟨Below.refl _ _⟩, ⟨Kd.N_nil _ _ _ _ _⟩, ⟨rfl⟩⟩
    case round =>
      obtain ⟨k, out, hk, hg, rfl, BR, HO, AX⟩ := hrel
      by_cases hkn : k < n
      · have hknz : (k : Int) < (n : Int) := by omega
        have hk3 : k < 3 := by omega
        obtain ⟨wo, rfl⟩ : ∃ q : World, q = wr := ⟨_, rfl⟩
        obtain ⟨go, rfl⟩ : ∃ q : Nat, q = gk := ⟨_, rfl⟩
        go_wp2
        have HMS : Aside0 (MkS wo wo.heap.size (wo.alloc (.cells #[.slice none 0 0, .slice none 0 0] 53)) (.slice none 0 0) (.slice none 0 0) [] []) :=
          ⟨⟨blk_new _ _, Kd.R_nil _ _ _ _ _, Kd.R_nil _ _ _ _ _, (Below.refl _ _).alloc (Nat.le_refl _) _, by simp, Nat.le_refl _⟩⟩
        obtain ⟨g, hg'⟩ : ∃ g, g = wo.heap.size := ⟨_, rfl⟩
        have HGW := Aside0.mk hg'
        rw [← hg'] at HMS ⊢
        clear hg'
        go_loopg [35] L.length (fun gg s wi => ∃ (i : Nat) (vL vR : Value) (xs ys : List Int), i ≤ L.length ∧ L.length - i ≤ gg ∧ s = .int .i64 i ∧ Aside0 (MkS wo g wi vL vR xs ys) ∧ Aside0 (xs ++ sideOf k 1 i (L.drop i) = sideOf k 1 0 L) ∧ Aside0 (ys ++ sideOf k (-1) i (L.drop i) = sideOf k (-1) 0 L))
        case atStart => exact ⟨0, _, _, [], [], Nat.zero_le _, by omega, rfl, HMS, ⟨rfl⟩, ⟨rfl⟩⟩
        case round =>
          obtain ⟨i, vL, vR, xs, ys, hi, hgi, rfl, HM, EL, ER⟩ := hrel
          by_cases hil : i < L.length
          · have hilz : (i : Int) < (L.length : Int) := by omega
            obtain ⟨ad, e1, hx0, hx1, hx2⟩ := at_T70 HL.out i (by omega) hilz
            cases e1
            have BI := BR.out.trans (HM.out.2.2.2.1.mono BR.out.size)
            replace hx0 := (BI.cell (World.block_lt_of_cell? w2 _ hx0)).trans hx0
            replace hx1 := (BI.cell (World.block_lt_of_cell? w2 _ hx1)).trans hx1
            replace hx2 := (BI.cell (World.block_lt_of_cell? w2 _ hx2)).trans hx2
            simp only [Int.toNat_natCast] at hx0 hx1 hx2
            rw [show rd_T70 L (i : Int) = L.getD i z70 from rfl] at hx0 hx1 hx2
            have SL : Aside0 (sideOf k 1 i (L.drop i) = if getk (L.getD i z70) k = 1 then (i : Int) :: sideOf k 1 (i + 1) (L.drop (i + 1)) else sideOf k 1 (i + 1) (L.drop (i + 1))) := ⟨by rw [dropD z70 L i hil]; rfl⟩
            have SR : Aside0 (sideOf k (-1) i (L.drop i) = if getk (L.getD i z70) k = -1 then (i : Int) :: sideOf k (-1) (i + 1) (L.drop (i + 1)) else sideOf k (-1) (i + 1) (L.drop (i + 1))) := ⟨by rw [dropD z70 L i hil]; rfl⟩
            have HLX : Aside0 (0 = 0 ∧ xs.length ≤ 13 ∧ ys.length ≤ 13) := by
              refine ⟨rfl, ?_, ?_⟩
              · have h := congrArg List.length EL.out
                rw [List.length_append] at h
                have := sideOf_len k 1 L 0
                omega
              · have h := congrArg List.length ER.out
                rw [List.length_append] at h
                have := sideOf_len k (-1) L 0
                omega
            clear BI
            generalize L.getD i z70 = m at *
            go_upto_region 15 with (fail)
            have hq := (blk_cell (blk_new wr (.cells (cells3 m) 70)) k).trans (cells3_get m k hk3)
            have HM1 := Aside0.mk (HM.out.alloc (.cells (cells3 m) 70))
            rw [show (Obj.cells #[Value.int .i64 m.f0, Value.int .i64 m.f1, Value.int .i64 m.f2] 70) = .cells (cells3 m) 70 from rfl]
            generalize wr.alloc (.cells (cells3 m) 70) = W1 at *
            clear HM hx0 hx1 hx2
            obtain ⟨x, hx⟩ : ∃ x, x = getk m k := ⟨_, rfl⟩
            rw [← hx] at hq SL SR
            clear hx
            by_cases hx : x = 1
            · skip
              have EL2 : Aside0 ((xs ++ [(i : Int)]) ++ sideOf k 1 (i + 1) (L.drop (i + 1)) = sideOf k 1 0 L) := ⟨by rw [← EL.out, SL.out, if_pos hx]; simp⟩
              have ER2 : Aside0 (ys ++ sideOf k (-1) (i + 1) (L.drop (i + 1)) = sideOf k (-1) 0 L) := ⟨by rw [← ER.out, SR.out, if_neg (by rw [hx]; decide)]⟩
              clear EL ER SL SR
              have q0 : W1.cell? ⟨g, 0, none⟩ = some vL := (blk_cell HM1.out.1 0)
              have hlx := HLX.out.2.1
              subst hx
              go_wp2_with (first | (at_builtin; refine Kd.R_append (Kd.int .i64) (w0 := wo) wo.heap.size rfl (.tmp 46) (.tmp 48) 43 3 (.int .i64 0) 8 rfl Try.underlying43 info3 rfl (by decide) (by omega) vL xs (i : Int) [.int .i64 (i : Int)] (fun q => q ≠ g ∧ some q ≠ vR.ownBlock) (fun _ => False) rfl rfl ?aP (fun _ h => h.elim) ?aF HM1.out.2.1 HM1.out.2.2.2.1 HM1.out.2.2.2.1.size ?aL ?_))
              case aP => exact rfl
              case aF =>
                intro q hq
                have h5 := HM1.out.2.2.2.2.1
                refine ⟨by omega, fun he => ?_⟩
                have := (Kd.R_bound HM1.out.2.2.1).1 q he.symm
                omega
              case aL => omega
              intro v1 w3 hR3 hB3 hG3 hat3
              obtain ⟨zs, hzs⟩ : ∃ z, z = xs ++ [(i : Int)] := ⟨_, rfl⟩
              rw [← hzs] at hR3 EL2
              clear hzs
              obtain ⟨A1, c1, rfl⟩ := Kd.R_slice hR3
              have hX3 := blk_grown HM1.out.1 hG3 (Kd.R_away HM1.out.2.1 (fun q hq => hq.1))
              have HN := Aside0.mk (MkS.left HM1.out hR3 hB3 hG3 hat3)
              have c3 : w3.cell? ⟨g, 0, none⟩ = some vL := blk_cell hX3 0
              have f3 : w3.frozen? ⟨g, 0, none⟩ = false := blk_frozen hX3 0
              clear hX3 hR3 hB3 hG3 hat3 HM1 q0
              go_wp2
              go_roundg (L.length - (i + 1))
              case measure => omega
              case rel => exact ⟨i + 1, _, vR, _, ys, by omega, by omega, by go_num, HN, EL2, ER2⟩
            by_cases hx : x = -1
            · skip
              have EL2 : Aside0 (xs ++ sideOf k 1 (i + 1) (L.drop (i + 1)) = sideOf k 1 0 L) := ⟨by rw [← EL.out, SL.out, if_neg (by rw [hx]; decide)]⟩
              have ER2 : Aside0 ((ys ++ [(i : Int)]) ++ sideOf k (-1) (i + 1) (L.drop (i + 1)) = sideOf k (-1) 0 L) := ⟨by rw [← ER.out, SR.out, if_pos hx]; simp⟩
              clear EL ER SL SR
              have q0 : W1.cell? ⟨g, 1, none⟩ = some vR := (blk_cell HM1.out.1 1)
              have hlx := HLX.out.2.2
              subst hx
              go_wp2_with (first | (at_builtin; refine Kd.R_append (Kd.int .i64) (w0 := wo) wo.heap.size rfl (.tmp 54) (.tmp 56) 43 3 (.int .i64 0) 8 rfl Try.underlying43 info3 rfl (by decide) (by omega) vR ys (i : Int) [.int .i64 (i : Int)] (fun q => q ≠ g ∧ some q ≠ vL.ownBlock) (fun _ => False) rfl rfl ?aP (fun _ h => h.elim) ?aF HM1.out.2.2.1 HM1.out.2.2.2.1 HM1.out.2.2.2.1.size ?aL ?_))
              case aP => exact rfl
              case aF =>
                intro q hq
                have h5 := HM1.out.2.2.2.2.1
                refine ⟨by omega, fun he => ?_⟩
                have := (Kd.R_bound HM1.out.2.1).1 q he.symm
                omega
              case aL => omega
              intro v1 w3 hR3 hB3 hG3 hat3
              obtain ⟨zs, hzs⟩ : ∃ z, z = ys ++ [(i : Int)] := ⟨_, rfl⟩
              rw [← hzs] at hR3 ER2
              clear hzs
              obtain ⟨A1, c1, rfl⟩ := Kd.R_slice hR3
              have hX3 := blk_grown HM1.out.1 hG3 (Kd.R_away HM1.out.2.2.1 (fun q hq => hq.1))
              have HN := Aside0.mk (MkS.right HM1.out hR3 hB3 hG3 hat3)
              have c3 : w3.cell? ⟨g, 1, none⟩ = some vR := blk_cell hX3 1
              have f3 : w3.frozen? ⟨g, 1, none⟩ = false := blk_frozen hX3 1
              clear hX3 hR3 hB3 hG3 hat3 HM1 q0
              go_wp2
              go_roundg (L.length - (i + 1))
              case measure => omega
              case rel => exact ⟨i + 1, vL, _, xs, _, by omega, by omega, by go_num, HN, EL2, ER2⟩
            have EL2 : Aside0 (xs ++ sideOf k 1 (i + 1) (L.drop (i + 1)) = sideOf k 1 0 L) := ⟨by rw [← EL.out, SL.out, if_neg (by assumption)]⟩
            have ER2 : Aside0 (ys ++ sideOf k (-1) (i + 1) (L.drop (i + 1)) = sideOf k (-1) 0 L) := ⟨by rw [← ER.out, SR.out, if_neg hx]⟩
            clear EL ER SL SR
            go_wp2
            go_roundg (L.length - (i + 1))
            case measure => omega
            case rel => exact ⟨i + 1, vL, vR, xs, ys, by omega, by omega, by go_num, HM1, EL2, ER2⟩
          · have hilz : ¬ (i : Int) < (L.length : Int) := by omega
            obtain rfl : i = L.length := by omega
            obtain ⟨AL, cL, rfl⟩ := Kd.R_slice HM.out.2.1
            obtain ⟨AR, cR, rfl⟩ := Kd.R_slice HM.out.2.2.1
            obtain ⟨Av, cv, rfl⟩ := Kd.N_slice HO.out
            have c0 : wr.cell? ⟨g, 0, none⟩ = some (.slice AL xs.length cL) := blk_cell HM.out.1 0
            have c1 : wr.cell? ⟨g, 1, none⟩ = some (.slice AR ys.length cR) := blk_cell HM.out.1 1
            have hxe := Aside0.mk (show xs = sideOf k 1 0 L by rw [← EL.out, List.drop_length]; simp [sideOf])
            have hye := Aside0.mk (show ys = sideOf k (-1) 0 L by rw [← ER.out, List.drop_length]; simp [sideOf])
            have hol : out.length ≤ 3 := by rw [AX.out]; simp; omega
            go_wp2_with (first | (at_builtin; refine Kd.N_append k53 (w0 := w2) w2.heap.size rfl (.tmp 60) (.tmp 62) 22 53 (.agg #[(.slice none 0 0), (.slice none 0 0)]) 48 rfl Try.underlying22 info53 rfl (by decide) (by omega) (.slice Av out.length cv) out (⟨xs, ys⟩ : S53) [.slice AL xs.length cL, .slice AR ys.length cR] (fun k_ => w2.heap.size ≤ k_) (fun k_ => some k_ = (.slice AL xs.length cL : Value).ownBlock ∨ some k_ = (.slice AR ys.length cR : Value).ownBlock) rfl rfl ?aP ?aK ?aF ?aO ?aB ?aS ?aL ?_))
            case aP => exact Kd.FK_of_M (k53_mkM _ wo.heap.size _ (⟨xs, ys⟩ : S53) (Kd.R_mono (Kd.R_tight rfl HM.out.2.1) (fun _ h => Or.inl h)) (Kd.R_mono (Kd.R_tight rfl HM.out.2.2.1) (fun _ h => Or.inr h)))
            case aK =>
              intro q hq
              have h1 : wo.heap.size ≤ q := by
                rcases hq with h | h
                · exact Kd.R_base HM.out.2.1 q h.symm
                · exact Kd.R_base HM.out.2.2.1 q h.symm
              refine ⟨by have := BR.out.size; omega, fun he => ?_⟩
              have h2 := Kd.N_lt HO.out q he.symm
              omega
            case aF => intro q hq; have h1 := BR.out.size; have h2 := HM.out.2.2.2.1.size; omega
            case aO => exact Kd.N_below HO.out HM.out.2.2.2.1
            case aB => exact BR.out.trans (HM.out.2.2.2.1.mono BR.out.size)
            case aS => have h1 := BR.out.size; have h2 := HM.out.2.2.2.1.size; omega
            case aL => omega
            intro v1 w3 hN hB3 _ _
            have HN := Aside0.mk hN
            have HB3 := Aside0.mk hB3
            clear hN hB3
            go_wp2
            go_roundg (n - (k + 1))
            case measure => omega
            case rel =>
              refine ⟨k + 1, _, by omega, by omega, by go_num, HB3, HN, ⟨?_⟩⟩
              rw [AX.out, List.range_succ, List.map_append, hxe.out, hye.out]
              rfl
      · have hknz : ¬ (k : Int) < (n : Int) := by omega
        obtain rfl : k = n := by omega
        go_wp2
        go_ret3
        refine ⟨_, rfl, ?_, HB2.out.trans (BR.out.mono HB2.out.size)⟩
        have h := Kd.N_mono (ok' := fun k_ => w.heap.size ≤ k_) (Kd.N_lower HO.out HB2.out.size) (fun k hk => Nat.le_trans HB2.out.size hk)
        rw [AX.out] at h
        exact h
end Go.Proofs.Ytdbeochifofdoaa.X
end
