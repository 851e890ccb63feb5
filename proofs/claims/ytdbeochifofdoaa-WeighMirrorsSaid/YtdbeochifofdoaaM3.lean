/- Mirror exchanges the sides of a weighing, Without leaves a weighing out: for all plans and numbers.
Its conditions: none beyond the statement's own. Part 4 of 5 of the proof. -/
import Derived.Test.YtdbeochifofdoaaM2
section
-- Written by a program of this session (wip/hook.py, which runs the kit's print.py with contracts proved by hand). Not trusted: Lean checks it.
namespace Go.Proofs.Ytdbeochifofdoaa.X
open Go.RowKit Go.Proofs.YtdbeochifofdoaaW.PrintWords Go.Proofs.YtdbeochifofdoaaW.PrintLast Go.Proofs.YtdbeochifofdoaaW.PrintMore
attribute [local go_sem] max2_int min2_int max_two min_two max_three min_three max_four min_four   -- for this text's walks alone
set_option linter.unusedVariables false
set_option linter.unusedSimpArgs false

/-! ### verditerref06_Same: function 68 -/
def verditerref06_Same.l0 : Nat → List (S53) → List (S53) → Int → Option (Bool)
  | 0, _, _, _ => none
  | k + 1, x0, x1, x5 => if x5 < (x0.length : Int) then (if 0 ≤ x5 then (if x5 < (x1.length : Int) then ((verditerref06_SameInts.f k ((rd_T53 x0 x5).f0) ((rd_T53 x1 x5).f0)).bind fun t503 => (if t503 = true then ((verditerref06_SameInts.f k ((rd_T53 x0 x5).f1) ((rd_T53 x1 x5).f1)).bind fun t506 => (if t506 = true then (verditerref06_Same.l0 k x0 x1 (wrap64 (x5 + 1))) else (some false))) else (some false))) else (none)) else (none)) else (some true)
def verditerref06_Same.f (k : Nat) (l0 : List (S53)) (l1 : List (S53)) : Option (Bool) := if (l0.length : Int) = (l1.length : Int) then (verditerref06_Same.l0 k l0 l1 0) else (some false)
set_option maxHeartbeats 8000000 in
set_option maxRecDepth 100000 in
theorem verditerref06_Same.calls (k : Nat) (A0 : Option Addr) (c0 : Nat) (l0 : List (S53)) (A1 : Option Addr) (c1 : Nat) (l1 : List (S53)) (r : Bool) (w : World) (hr0 : Kd.C k53 w A0 l0.length l0) (hc0 : l0.length ≤ c0) (hr1 : Kd.C k53 w A1 l1.length l1) (hc1 : l1.length ≤ c1) (h : verditerref06_Same.f k l0 l1 = some r) :
    Calls Try.prog 68 #[.slice A0 l0.length c0, .slice A1 l1.length c1] w fun e w' => e = .returned (.bool r) ∧ Drawn0 w w' := by
  have HR0 := Aside0.mk hr0
  have HC0 := Aside0.mk hc0
  clear hr0 hc0
  have HR1 := Aside0.mk hr1
  have HC1 := Aside0.mk hc1
  clear hr1 hc1
  have H : (if (l0.length : Int) = (l1.length : Int) then (verditerref06_Same.l0 k l0 l1 0) else (some false)) = some r := h
  clear h
  by_cases c3 : (l0.length : Int) = (l1.length : Int)
  · rw [if_pos c3] at H
    have c3b0 : ((l0.length : Int) == (l1.length : Int)) = true := beq_iff_eq.mpr c3
    have c3b1 : ((l0.length : Int) != (l1.length : Int)) = false := bne_eq_false_iff_eq.mpr c3
    have c3b2 : (l0.length == l1.length) = true := by first | simpa using c3 | (simp at c3 ⊢; omega)
    clear c3
    have H' := Aside0.mk H
    clear H
    go_enter Try.func68, Try.ntmps68
    go_wp2
    repeat (go_quiet (fail); try go_wp2)
    go_loopg [5] k (fun kq v5 w' => ∃ (x5_1 : Int), v5 = .int .i64 x5_1 ∧ Aside0 (verditerref06_Same.l0 kq l0 l1 x5_1 = some r) ∧ Aside0 (kq ≤ k) ∧ Drawn0 w w')
    case atStart => exact ⟨(0), (by first | rfl | (simp; done) | (simp [*]; done)), H', ⟨Nat.le_refl _⟩, by repeat (first | exact Drawn0.refl _ | apply Drawn0.step)⟩
    case round =>
      clear H'
      try clear c1
      try clear p2
      try clear c3
      try clear c3b0
      try clear c3b1
      try clear c3b2
      obtain ⟨x5_1, rfl, HA, HK1, ⟨m1, rfl⟩⟩ := hrel
      cases gk with
      | zero => exact absurd HA.out (by simp [verditerref06_Same.l0])
      | succ k1 =>
        have H := HA.out
        clear HA
        simp only [verditerref06_Same.l0] at H
        by_cases c4 : x5_1 < (l0.length : Int)
        · rw [if_pos c4] at H
          have c4b0 : decide (x5_1 < (l0.length : Int)) = true := decide_eq_true c4
          clear c4
          by_cases c5 : 0 ≤ x5_1
          · rw [if_pos c5] at H
            have c5b0 : decide (0 ≤ x5_1) = true := decide_eq_true c5
            clear c5
            by_cases c6 : x5_1 < (l1.length : Int)
            · rw [if_pos c6] at H
              have c6b0 : decide (x5_1 < (l1.length : Int)) = true := decide_eq_true c6
              clear c6
              replace H := Option.bind_eq_some_iff.mp H
              obtain ⟨t503, A70, H⟩ := H
              replace H : (if t503 = true then ((verditerref06_SameInts.f k1 ((rd_T53 l0 x5_1).f1) ((rd_T53 l1 x5_1).f1)).bind fun t506 => (if t506 = true then (verditerref06_Same.l0 k1 l0 l1 (wrap64 (x5_1 + 1))) else (some false))) else (some false)) = some r := H
              have A7 := Aside0.mk A70
              clear A70
              by_cases c8 : t503 = true
              · subst c8
                have H1 : ((verditerref06_SameInts.f k1 ((rd_T53 l0 x5_1).f1) ((rd_T53 l1 x5_1).f1)).bind fun t506 => (if t506 = true then (verditerref06_Same.l0 k1 l0 l1 (wrap64 (x5_1 + 1))) else (some false))) = some r := by rw [if_pos rfl] at H; exact H
                clear H
                have H := H1
                clear H1
                replace H := Option.bind_eq_some_iff.mp H
                obtain ⟨t506, A90, H⟩ := H
                replace H : (if t506 = true then (verditerref06_Same.l0 k1 l0 l1 (wrap64 (x5_1 + 1))) else (some false)) = some r := H
                have A9 := Aside0.mk A90
                clear A90
                by_cases c10 : t506 = true
                · subst c10
                  have H1 : (verditerref06_Same.l0 k1 l0 l1 (wrap64 (x5_1 + 1))) = some r := by rw [if_pos rfl] at H; exact H
                  clear H
                  have H := H1
                  clear H1
                  have H' := Aside0.mk H
                  clear H
                  have p501 : 0 ≤ (x5_1 : Int) := of_decide_eq_true (by first | (with_reducible assumption) | assumption)
                  have q501 : x5_1 < (l0.length : Int) := of_decide_eq_true (by first | (with_reducible assumption) | assumption)
                  obtain ⟨ad501, A501_0, c501_0, A501_1, c501_1, e501, hx501_0, hx501_1, hl501_0, hi501_0, hl501_1, hi501_1⟩ := at_T53 HR0.out x5_1 p501 q501
                  cases e501
                  have HR501_0 := Aside0.mk hi501_0
                  have HC501_0 := Aside0.mk hl501_0
                  clear hi501_0 hl501_0
                  have HR501_1 := Aside0.mk hi501_1
                  have HC501_1 := Aside0.mk hl501_1
                  clear hi501_1 hl501_1
                  replace p501 := eq_true p501
                  replace q501 := eq_true q501
                  have p502 : 0 ≤ (x5_1 : Int) := of_decide_eq_true (by first | (with_reducible assumption) | assumption)
                  have q502 : x5_1 < (l1.length : Int) := of_decide_eq_true (by first | (with_reducible assumption) | assumption)
                  obtain ⟨ad502, A502_0, c502_0, A502_1, c502_1, e502, hx502_0, hx502_1, hl502_0, hi502_0, hl502_1, hi502_1⟩ := at_T53 HR1.out x5_1 p502 q502
                  cases e502
                  have HR502_0 := Aside0.mk hi502_0
                  have HC502_0 := Aside0.mk hl502_0
                  clear hi502_0 hl502_0
                  have HR502_1 := Aside0.mk hi502_1
                  have HC502_1 := Aside0.mk hl502_1
                  clear hi502_1 hl502_1
                  replace p502 := eq_true p502
                  replace q502 := eq_true q502
                  go_wp2_with (first | (go_at_call 60; (with_reducible refine (verditerref06_SameInts.calls k1 _ _ ((rd_T53 l0 x5_1).f0) _ _ ((rd_T53 l1 x5_1).f0) true _ ?side1 ?side2 ?side3 ?side4 A7.out).mono ?_); (case side1 => repeat (first | exact HR501_0.out | (with_reducible refine Kd.C_alloc ?_ _) | (with_reducible refine Kd.C_drewN ?_ _) | (with_reducible refine Kd.C_drew ?_))); (case side2 => exact HC501_0.out); (case side3 => repeat (first | exact HR502_0.out | (with_reducible refine Kd.C_alloc ?_ _) | (with_reducible refine Kd.C_drewN ?_ _) | (with_reducible refine Kd.C_drew ?_))); (case side4 => exact HC502_0.out); rintro e w' ⟨rfl, ⟨nd, rfl⟩⟩; (try first | exact ⟨rfl, _, World.drewN_drewN _ _ _⟩ | exact ⟨rfl, _, Eq.trans (World.drewN_drewN _ _ _) (congrArg (World.drewN _) (Nat.add_assoc _ _ _))⟩); have p504 : 0 ≤ (x5_1 : Int) := of_decide_eq_true (by first | (with_reducible assumption) | assumption); have q504 : x5_1 < (l0.length : Int) := of_decide_eq_true (by first | (with_reducible assumption) | assumption); obtain ⟨ad504, A504_0, c504_0, A504_1, c504_1, e504, hx504_0, hx504_1, hl504_0, hi504_0, hl504_1, hi504_1⟩ := at_T53 HR0.out x5_1 p504 q504; obtain rfl : ad501 = ad504 := (by injection e504); have HR504_0 := Aside0.mk hi504_0; have HC504_0 := Aside0.mk hl504_0; clear hi504_0 hl504_0; have HR504_1 := Aside0.mk hi504_1; have HC504_1 := Aside0.mk hl504_1; clear hi504_1 hl504_1; replace p504 := eq_true p504; replace q504 := eq_true q504; have ea_ := Option.some.inj (hx501_0.symm.trans hx504_0); injection ea_ with ea_ en_ ec_; subst ea_; subst ec_; clear en_; have ea_ := Option.some.inj (hx501_1.symm.trans hx504_1); injection ea_ with ea_ en_ ec_; subst ea_; subst ec_; clear en_; have p505 : 0 ≤ (x5_1 : Int) := of_decide_eq_true (by first | (with_reducible assumption) | assumption); have q505 : x5_1 < (l1.length : Int) := of_decide_eq_true (by first | (with_reducible assumption) | assumption); obtain ⟨ad505, A505_0, c505_0, A505_1, c505_1, e505, hx505_0, hx505_1, hl505_0, hi505_0, hl505_1, hi505_1⟩ := at_T53 HR1.out x5_1 p505 q505; obtain rfl : ad502 = ad505 := (by injection e505); have HR505_0 := Aside0.mk hi505_0; have HC505_0 := Aside0.mk hl505_0; clear hi505_0 hl505_0; have HR505_1 := Aside0.mk hi505_1; have HC505_1 := Aside0.mk hl505_1; clear hi505_1 hl505_1; replace p505 := eq_true p505; replace q505 := eq_true q505; have ea_ := Option.some.inj (hx502_0.symm.trans hx505_0); injection ea_ with ea_ en_ ec_; subst ea_; subst ec_; clear en_; have ea_ := Option.some.inj (hx502_1.symm.trans hx505_1); injection ea_ with ea_ en_ ec_; subst ea_; subst ec_; clear en_) | (go_at_call 60; (with_reducible refine (verditerref06_SameInts.calls k1 _ _ ((rd_T53 l0 x5_1).f1) _ _ ((rd_T53 l1 x5_1).f1) true _ ?side1 ?side2 ?side3 ?side4 A9.out).mono ?_); (case side1 => repeat (first | exact HR504_1.out | (with_reducible refine Kd.C_alloc ?_ _) | (with_reducible refine Kd.C_drewN ?_ _) | (with_reducible refine Kd.C_drew ?_))); (case side2 => exact HC504_1.out); (case side3 => repeat (first | exact HR505_1.out | (with_reducible refine Kd.C_alloc ?_ _) | (with_reducible refine Kd.C_drewN ?_ _) | (with_reducible refine Kd.C_drew ?_))); (case side4 => exact HC505_1.out); rintro e w' ⟨rfl, ⟨nd, rfl⟩⟩; (try first | exact ⟨rfl, _, World.drewN_drewN _ _ _⟩ | exact ⟨rfl, _, Eq.trans (World.drewN_drewN _ _ _) (congrArg (World.drewN _) (Nat.add_assoc _ _ _))⟩)))
                  repeat (go_quiet (first | (go_at_call 60; (with_reducible refine (verditerref06_SameInts.calls k1 _ _ ((rd_T53 l0 x5_1).f0) _ _ ((rd_T53 l1 x5_1).f0) true _ ?side1 ?side2 ?side3 ?side4 A7.out).mono ?_); (case side1 => repeat (first | exact HR501_0.out | (with_reducible refine Kd.C_alloc ?_ _) | (with_reducible refine Kd.C_drewN ?_ _) | (with_reducible refine Kd.C_drew ?_))); (case side2 => exact HC501_0.out); (case side3 => repeat (first | exact HR502_0.out | (with_reducible refine Kd.C_alloc ?_ _) | (with_reducible refine Kd.C_drewN ?_ _) | (with_reducible refine Kd.C_drew ?_))); (case side4 => exact HC502_0.out); rintro e w' ⟨rfl, ⟨nd, rfl⟩⟩; (try first | exact ⟨rfl, _, World.drewN_drewN _ _ _⟩ | exact ⟨rfl, _, Eq.trans (World.drewN_drewN _ _ _) (congrArg (World.drewN _) (Nat.add_assoc _ _ _))⟩); have p504 : 0 ≤ (x5_1 : Int) := of_decide_eq_true (by first | (with_reducible assumption) | assumption); have q504 : x5_1 < (l0.length : Int) := of_decide_eq_true (by first | (with_reducible assumption) | assumption); obtain ⟨ad504, A504_0, c504_0, A504_1, c504_1, e504, hx504_0, hx504_1, hl504_0, hi504_0, hl504_1, hi504_1⟩ := at_T53 HR0.out x5_1 p504 q504; obtain rfl : ad501 = ad504 := (by injection e504); have HR504_0 := Aside0.mk hi504_0; have HC504_0 := Aside0.mk hl504_0; clear hi504_0 hl504_0; have HR504_1 := Aside0.mk hi504_1; have HC504_1 := Aside0.mk hl504_1; clear hi504_1 hl504_1; replace p504 := eq_true p504; replace q504 := eq_true q504; have ea_ := Option.some.inj (hx501_0.symm.trans hx504_0); injection ea_ with ea_ en_ ec_; subst ea_; subst ec_; clear en_; have ea_ := Option.some.inj (hx501_1.symm.trans hx504_1); injection ea_ with ea_ en_ ec_; subst ea_; subst ec_; clear en_; have p505 : 0 ≤ (x5_1 : Int) := of_decide_eq_true (by first | (with_reducible assumption) | assumption); have q505 : x5_1 < (l1.length : Int) := of_decide_eq_true (by first | (with_reducible assumption) | assumption); obtain ⟨ad505, A505_0, c505_0, A505_1, c505_1, e505, hx505_0, hx505_1, hl505_0, hi505_0, hl505_1, hi505_1⟩ := at_T53 HR1.out x5_1 p505 q505; obtain rfl : ad502 = ad505 := (by injection e505); have HR505_0 := Aside0.mk hi505_0; have HC505_0 := Aside0.mk hl505_0; clear hi505_0 hl505_0; have HR505_1 := Aside0.mk hi505_1; have HC505_1 := Aside0.mk hl505_1; clear hi505_1 hl505_1; replace p505 := eq_true p505; replace q505 := eq_true q505; have ea_ := Option.some.inj (hx502_0.symm.trans hx505_0); injection ea_ with ea_ en_ ec_; subst ea_; subst ec_; clear en_; have ea_ := Option.some.inj (hx502_1.symm.trans hx505_1); injection ea_ with ea_ en_ ec_; subst ea_; subst ec_; clear en_) | (go_at_call 60; (with_reducible refine (verditerref06_SameInts.calls k1 _ _ ((rd_T53 l0 x5_1).f1) _ _ ((rd_T53 l1 x5_1).f1) true _ ?side1 ?side2 ?side3 ?side4 A9.out).mono ?_); (case side1 => repeat (first | exact HR504_1.out | (with_reducible refine Kd.C_alloc ?_ _) | (with_reducible refine Kd.C_drewN ?_ _) | (with_reducible refine Kd.C_drew ?_))); (case side2 => exact HC504_1.out); (case side3 => repeat (first | exact HR505_1.out | (with_reducible refine Kd.C_alloc ?_ _) | (with_reducible refine Kd.C_drewN ?_ _) | (with_reducible refine Kd.C_drew ?_))); (case side4 => exact HC505_1.out); rintro e w' ⟨rfl, ⟨nd, rfl⟩⟩; (try first | exact ⟨rfl, _, World.drewN_drewN _ _ _⟩ | exact ⟨rfl, _, Eq.trans (World.drewN_drewN _ _ _) (congrArg (World.drewN _) (Nat.add_assoc _ _ _))⟩))); try go_wp2_with (first | (go_at_call 60; (with_reducible refine (verditerref06_SameInts.calls k1 _ _ ((rd_T53 l0 x5_1).f0) _ _ ((rd_T53 l1 x5_1).f0) true _ ?side1 ?side2 ?side3 ?side4 A7.out).mono ?_); (case side1 => repeat (first | exact HR501_0.out | (with_reducible refine Kd.C_alloc ?_ _) | (with_reducible refine Kd.C_drewN ?_ _) | (with_reducible refine Kd.C_drew ?_))); (case side2 => exact HC501_0.out); (case side3 => repeat (first | exact HR502_0.out | (with_reducible refine Kd.C_alloc ?_ _) | (with_reducible refine Kd.C_drewN ?_ _) | (with_reducible refine Kd.C_drew ?_))); (case side4 => exact HC502_0.out); rintro e w' ⟨rfl, ⟨nd, rfl⟩⟩; (try first | exact ⟨rfl, _, World.drewN_drewN _ _ _⟩ | exact ⟨rfl, _, Eq.trans (World.drewN_drewN _ _ _) (congrArg (World.drewN _) (Nat.add_assoc _ _ _))⟩); have p504 : 0 ≤ (x5_1 : Int) := of_decide_eq_true (by first | (with_reducible assumption) | assumption); have q504 : x5_1 < (l0.length : Int) := of_decide_eq_true (by first | (with_reducible assumption) | assumption); obtain ⟨ad504, A504_0, c504_0, A504_1, c504_1, e504, hx504_0, hx504_1, hl504_0, hi504_0, hl504_1, hi504_1⟩ := at_T53 HR0.out x5_1 p504 q504; obtain rfl : ad501 = ad504 := (by injection e504); have HR504_0 := Aside0.mk hi504_0; have HC504_0 := Aside0.mk hl504_0; clear hi504_0 hl504_0; have HR504_1 := Aside0.mk hi504_1; have HC504_1 := Aside0.mk hl504_1; clear hi504_1 hl504_1; replace p504 := eq_true p504; replace q504 := eq_true q504; have ea_ := Option.some.inj (hx501_0.symm.trans hx504_0); injection ea_ with ea_ en_ ec_; subst ea_; subst ec_; clear en_; have ea_ := Option.some.inj (hx501_1.symm.trans hx504_1); injection ea_ with ea_ en_ ec_; subst ea_; subst ec_; clear en_; have p505 : 0 ≤ (x5_1 : Int) := of_decide_eq_true (by first | (with_reducible assumption) | assumption); have q505 : x5_1 < (l1.length : Int) := of_decide_eq_true (by first | (with_reducible assumption) | assumption); obtain ⟨ad505, A505_0, c505_0, A505_1, c505_1, e505, hx505_0, hx505_1, hl505_0, hi505_0, hl505_1, hi505_1⟩ := at_T53 HR1.out x5_1 p505 q505; obtain rfl : ad502 = ad505 := (by injection e505); have HR505_0 := Aside0.mk hi505_0; have HC505_0 := Aside0.mk hl505_0; clear hi505_0 hl505_0; have HR505_1 := Aside0.mk hi505_1; have HC505_1 := Aside0.mk hl505_1; clear hi505_1 hl505_1; replace p505 := eq_true p505; replace q505 := eq_true q505; have ea_ := Option.some.inj (hx502_0.symm.trans hx505_0); injection ea_ with ea_ en_ ec_; subst ea_; subst ec_; clear en_; have ea_ := Option.some.inj (hx502_1.symm.trans hx505_1); injection ea_ with ea_ en_ ec_; subst ea_; subst ec_; clear en_) | (go_at_call 60; (with_reducible refine (verditerref06_SameInts.calls k1 _ _ ((rd_T53 l0 x5_1).f1) _ _ ((rd_T53 l1 x5_1).f1) true _ ?side1 ?side2 ?side3 ?side4 A9.out).mono ?_); (case side1 => repeat (first | exact HR504_1.out | (with_reducible refine Kd.C_alloc ?_ _) | (with_reducible refine Kd.C_drewN ?_ _) | (with_reducible refine Kd.C_drew ?_))); (case side2 => exact HC504_1.out); (case side3 => repeat (first | exact HR505_1.out | (with_reducible refine Kd.C_alloc ?_ _) | (with_reducible refine Kd.C_drewN ?_ _) | (with_reducible refine Kd.C_drew ?_))); (case side4 => exact HC505_1.out); rintro e w' ⟨rfl, ⟨nd, rfl⟩⟩; (try first | exact ⟨rfl, _, World.drewN_drewN _ _ _⟩ | exact ⟨rfl, _, Eq.trans (World.drewN_drewN _ _ _) (congrArg (World.drewN _) (Nat.add_assoc _ _ _))⟩))))
                  go_roundg k1
                  case measure => have := HK1.out; omega
                  case rel => exact ⟨(wrap64 (x5_1 + 1)), (by first | rfl | (simp; done) | (simp [*]; done)), H', ⟨by have := HK1.out; omega⟩, by repeat (first | exact Drawn0.refl _ | apply Drawn0.step)⟩
                · replace c10 := Bool.eq_false_iff.mpr c10
                  subst c10
                  have H1 : (some false) = some r := by rw [if_neg (show ¬ (false = true) by decide)] at H; exact H
                  clear H
                  have H := H1
                  clear H1
                  obtain rfl := Option.some.inj H
                  have p501 : 0 ≤ (x5_1 : Int) := of_decide_eq_true (by first | (with_reducible assumption) | assumption)
                  have q501 : x5_1 < (l0.length : Int) := of_decide_eq_true (by first | (with_reducible assumption) | assumption)
                  obtain ⟨ad501, A501_0, c501_0, A501_1, c501_1, e501, hx501_0, hx501_1, hl501_0, hi501_0, hl501_1, hi501_1⟩ := at_T53 HR0.out x5_1 p501 q501
                  cases e501
                  have HR501_0 := Aside0.mk hi501_0
                  have HC501_0 := Aside0.mk hl501_0
                  clear hi501_0 hl501_0
                  have HR501_1 := Aside0.mk hi501_1
                  have HC501_1 := Aside0.mk hl501_1
                  clear hi501_1 hl501_1
                  replace p501 := eq_true p501
                  replace q501 := eq_true q501
                  have p502 : 0 ≤ (x5_1 : Int) := of_decide_eq_true (by first | (with_reducible assumption) | assumption)
                  have q502 : x5_1 < (l1.length : Int) := of_decide_eq_true (by first | (with_reducible assumption) | assumption)
                  obtain ⟨ad502, A502_0, c502_0, A502_1, c502_1, e502, hx502_0, hx502_1, hl502_0, hi502_0, hl502_1, hi502_1⟩ := at_T53 HR1.out x5_1 p502 q502
                  cases e502
                  have HR502_0 := Aside0.mk hi502_0
                  have HC502_0 := Aside0.mk hl502_0
                  clear hi502_0 hl502_0
                  have HR502_1 := Aside0.mk hi502_1
                  have HC502_1 := Aside0.mk hl502_1
                  clear hi502_1 hl502_1
                  replace p502 := eq_true p502
                  replace q502 := eq_true q502
                  go_wp2_with (first | (go_at_call 60; (with_reducible refine (verditerref06_SameInts.calls k1 _ _ ((rd_T53 l0 x5_1).f0) _ _ ((rd_T53 l1 x5_1).f0) true _ ?side1 ?side2 ?side3 ?side4 A7.out).mono ?_); (case side1 => repeat (first | exact HR501_0.out | (with_reducible refine Kd.C_alloc ?_ _) | (with_reducible refine Kd.C_drewN ?_ _) | (with_reducible refine Kd.C_drew ?_))); (case side2 => exact HC501_0.out); (case side3 => repeat (first | exact HR502_0.out | (with_reducible refine Kd.C_alloc ?_ _) | (with_reducible refine Kd.C_drewN ?_ _) | (with_reducible refine Kd.C_drew ?_))); (case side4 => exact HC502_0.out); rintro e w' ⟨rfl, ⟨nd, rfl⟩⟩; (try first | exact ⟨rfl, _, World.drewN_drewN _ _ _⟩ | exact ⟨rfl, _, Eq.trans (World.drewN_drewN _ _ _) (congrArg (World.drewN _) (Nat.add_assoc _ _ _))⟩); have p504 : 0 ≤ (x5_1 : Int) := of_decide_eq_true (by first | (with_reducible assumption) | assumption); have q504 : x5_1 < (l0.length : Int) := of_decide_eq_true (by first | (with_reducible assumption) | assumption); obtain ⟨ad504, A504_0, c504_0, A504_1, c504_1, e504, hx504_0, hx504_1, hl504_0, hi504_0, hl504_1, hi504_1⟩ := at_T53 HR0.out x5_1 p504 q504; obtain rfl : ad501 = ad504 := (by injection e504); have HR504_0 := Aside0.mk hi504_0; have HC504_0 := Aside0.mk hl504_0; clear hi504_0 hl504_0; have HR504_1 := Aside0.mk hi504_1; have HC504_1 := Aside0.mk hl504_1; clear hi504_1 hl504_1; replace p504 := eq_true p504; replace q504 := eq_true q504; have ea_ := Option.some.inj (hx501_0.symm.trans hx504_0); injection ea_ with ea_ en_ ec_; subst ea_; subst ec_; clear en_; have ea_ := Option.some.inj (hx501_1.symm.trans hx504_1); injection ea_ with ea_ en_ ec_; subst ea_; subst ec_; clear en_; have p505 : 0 ≤ (x5_1 : Int) := of_decide_eq_true (by first | (with_reducible assumption) | assumption); have q505 : x5_1 < (l1.length : Int) := of_decide_eq_true (by first | (with_reducible assumption) | assumption); obtain ⟨ad505, A505_0, c505_0, A505_1, c505_1, e505, hx505_0, hx505_1, hl505_0, hi505_0, hl505_1, hi505_1⟩ := at_T53 HR1.out x5_1 p505 q505; obtain rfl : ad502 = ad505 := (by injection e505); have HR505_0 := Aside0.mk hi505_0; have HC505_0 := Aside0.mk hl505_0; clear hi505_0 hl505_0; have HR505_1 := Aside0.mk hi505_1; have HC505_1 := Aside0.mk hl505_1; clear hi505_1 hl505_1; replace p505 := eq_true p505; replace q505 := eq_true q505; have ea_ := Option.some.inj (hx502_0.symm.trans hx505_0); injection ea_ with ea_ en_ ec_; subst ea_; subst ec_; clear en_; have ea_ := Option.some.inj (hx502_1.symm.trans hx505_1); injection ea_ with ea_ en_ ec_; subst ea_; subst ec_; clear en_) | (go_at_call 60; (with_reducible refine (verditerref06_SameInts.calls k1 _ _ ((rd_T53 l0 x5_1).f1) _ _ ((rd_T53 l1 x5_1).f1) false _ ?side1 ?side2 ?side3 ?side4 A9.out).mono ?_); (case side1 => repeat (first | exact HR504_1.out | (with_reducible refine Kd.C_alloc ?_ _) | (with_reducible refine Kd.C_drewN ?_ _) | (with_reducible refine Kd.C_drew ?_))); (case side2 => exact HC504_1.out); (case side3 => repeat (first | exact HR505_1.out | (with_reducible refine Kd.C_alloc ?_ _) | (with_reducible refine Kd.C_drewN ?_ _) | (with_reducible refine Kd.C_drew ?_))); (case side4 => exact HC505_1.out); rintro e w' ⟨rfl, ⟨nd, rfl⟩⟩; (try first | exact ⟨rfl, _, World.drewN_drewN _ _ _⟩ | exact ⟨rfl, _, Eq.trans (World.drewN_drewN _ _ _) (congrArg (World.drewN _) (Nat.add_assoc _ _ _))⟩)))
                  repeat (go_quiet (first | (go_at_call 60; (with_reducible refine (verditerref06_SameInts.calls k1 _ _ ((rd_T53 l0 x5_1).f0) _ _ ((rd_T53 l1 x5_1).f0) true _ ?side1 ?side2 ?side3 ?side4 A7.out).mono ?_); (case side1 => repeat (first | exact HR501_0.out | (with_reducible refine Kd.C_alloc ?_ _) | (with_reducible refine Kd.C_drewN ?_ _) | (with_reducible refine Kd.C_drew ?_))); (case side2 => exact HC501_0.out); (case side3 => repeat (first | exact HR502_0.out | (with_reducible refine Kd.C_alloc ?_ _) | (with_reducible refine Kd.C_drewN ?_ _) | (with_reducible refine Kd.C_drew ?_))); (case side4 => exact HC502_0.out); rintro e w' ⟨rfl, ⟨nd, rfl⟩⟩; (try first | exact ⟨rfl, _, World.drewN_drewN _ _ _⟩ | exact ⟨rfl, _, Eq.trans (World.drewN_drewN _ _ _) (congrArg (World.drewN _) (Nat.add_assoc _ _ _))⟩); have p504 : 0 ≤ (x5_1 : Int) := of_decide_eq_true (by first | (with_reducible assumption) | assumption); have q504 : x5_1 < (l0.length : Int) := of_decide_eq_true (by first | (with_reducible assumption) | assumption); obtain ⟨ad504, A504_0, c504_0, A504_1, c504_1, e504, hx504_0, hx504_1, hl504_0, hi504_0, hl504_1, hi504_1⟩ := at_T53 HR0.out x5_1 p504 q504; obtain rfl : ad501 = ad504 := (by injection e504); have HR504_0 := Aside0.mk hi504_0; have HC504_0 := Aside0.mk hl504_0; clear hi504_0 hl504_0; have HR504_1 := Aside0.mk hi504_1; have HC504_1 := Aside0.mk hl504_1; clear hi504_1 hl504_1; replace p504 := eq_true p504; replace q504 := eq_true q504; have ea_ := Option.some.inj (hx501_0.symm.trans hx504_0); injection ea_ with ea_ en_ ec_; subst ea_; subst ec_; clear en_; have ea_ := Option.some.inj (hx501_1.symm.trans hx504_1); injection ea_ with ea_ en_ ec_; subst ea_; subst ec_; clear en_; have p505 : 0 ≤ (x5_1 : Int) := of_decide_eq_true (by first | (with_reducible assumption) | assumption); have q505 : x5_1 < (l1.length : Int) := of_decide_eq_true (by first | (with_reducible assumption) | assumption); obtain ⟨ad505, A505_0, c505_0, A505_1, c505_1, e505, hx505_0, hx505_1, hl505_0, hi505_0, hl505_1, hi505_1⟩ := at_T53 HR1.out x5_1 p505 q505; obtain rfl : ad502 = ad505 := (by injection e505); have HR505_0 := Aside0.mk hi505_0; have HC505_0 := Aside0.mk hl505_0; clear hi505_0 hl505_0; have HR505_1 := Aside0.mk hi505_1; have HC505_1 := Aside0.mk hl505_1; clear hi505_1 hl505_1; replace p505 := eq_true p505; replace q505 := eq_true q505; have ea_ := Option.some.inj (hx502_0.symm.trans hx505_0); injection ea_ with ea_ en_ ec_; subst ea_; subst ec_; clear en_; have ea_ := Option.some.inj (hx502_1.symm.trans hx505_1); injection ea_ with ea_ en_ ec_; subst ea_; subst ec_; clear en_) | (go_at_call 60; (with_reducible refine (verditerref06_SameInts.calls k1 _ _ ((rd_T53 l0 x5_1).f1) _ _ ((rd_T53 l1 x5_1).f1) false _ ?side1 ?side2 ?side3 ?side4 A9.out).mono ?_); (case side1 => repeat (first | exact HR504_1.out | (with_reducible refine Kd.C_alloc ?_ _) | (with_reducible refine Kd.C_drewN ?_ _) | (with_reducible refine Kd.C_drew ?_))); (case side2 => exact HC504_1.out); (case side3 => repeat (first | exact HR505_1.out | (with_reducible refine Kd.C_alloc ?_ _) | (with_reducible refine Kd.C_drewN ?_ _) | (with_reducible refine Kd.C_drew ?_))); (case side4 => exact HC505_1.out); rintro e w' ⟨rfl, ⟨nd, rfl⟩⟩; (try first | exact ⟨rfl, _, World.drewN_drewN _ _ _⟩ | exact ⟨rfl, _, Eq.trans (World.drewN_drewN _ _ _) (congrArg (World.drewN _) (Nat.add_assoc _ _ _))⟩))); try go_wp2_with (first | (go_at_call 60; (with_reducible refine (verditerref06_SameInts.calls k1 _ _ ((rd_T53 l0 x5_1).f0) _ _ ((rd_T53 l1 x5_1).f0) true _ ?side1 ?side2 ?side3 ?side4 A7.out).mono ?_); (case side1 => repeat (first | exact HR501_0.out | (with_reducible refine Kd.C_alloc ?_ _) | (with_reducible refine Kd.C_drewN ?_ _) | (with_reducible refine Kd.C_drew ?_))); (case side2 => exact HC501_0.out); (case side3 => repeat (first | exact HR502_0.out | (with_reducible refine Kd.C_alloc ?_ _) | (with_reducible refine Kd.C_drewN ?_ _) | (with_reducible refine Kd.C_drew ?_))); (case side4 => exact HC502_0.out); rintro e w' ⟨rfl, ⟨nd, rfl⟩⟩; (try first | exact ⟨rfl, _, World.drewN_drewN _ _ _⟩ | exact ⟨rfl, _, Eq.trans (World.drewN_drewN _ _ _) (congrArg (World.drewN _) (Nat.add_assoc _ _ _))⟩); have p504 : 0 ≤ (x5_1 : Int) := of_decide_eq_true (by first | (with_reducible assumption) | assumption); have q504 : x5_1 < (l0.length : Int) := of_decide_eq_true (by first | (with_reducible assumption) | assumption); obtain ⟨ad504, A504_0, c504_0, A504_1, c504_1, e504, hx504_0, hx504_1, hl504_0, hi504_0, hl504_1, hi504_1⟩ := at_T53 HR0.out x5_1 p504 q504; obtain rfl : ad501 = ad504 := (by injection e504); have HR504_0 := Aside0.mk hi504_0; have HC504_0 := Aside0.mk hl504_0; clear hi504_0 hl504_0; have HR504_1 := Aside0.mk hi504_1; have HC504_1 := Aside0.mk hl504_1; clear hi504_1 hl504_1; replace p504 := eq_true p504; replace q504 := eq_true q504; have ea_ := Option.some.inj (hx501_0.symm.trans hx504_0); injection ea_ with ea_ en_ ec_; subst ea_; subst ec_; clear en_; have ea_ := Option.some.inj (hx501_1.symm.trans hx504_1); injection ea_ with ea_ en_ ec_; subst ea_; subst ec_; clear en_; have p505 : 0 ≤ (x5_1 : Int) := of_decide_eq_true (by first | (with_reducible assumption) | assumption); have q505 : x5_1 < (l1.length : Int) := of_decide_eq_true (by first | (with_reducible assumption) | assumption); obtain ⟨ad505, A505_0, c505_0, A505_1, c505_1, e505, hx505_0, hx505_1, hl505_0, hi505_0, hl505_1, hi505_1⟩ := at_T53 HR1.out x5_1 p505 q505; obtain rfl : ad502 = ad505 := (by injection e505); have HR505_0 := Aside0.mk hi505_0; have HC505_0 := Aside0.mk hl505_0; clear hi505_0 hl505_0; have HR505_1 := Aside0.mk hi505_1; have HC505_1 := Aside0.mk hl505_1; clear hi505_1 hl505_1; replace p505 := eq_true p505; replace q505 := eq_true q505; have ea_ := Option.some.inj (hx502_0.symm.trans hx505_0); injection ea_ with ea_ en_ ec_; subst ea_; subst ec_; clear en_; have ea_ := Option.some.inj (hx502_1.symm.trans hx505_1); injection ea_ with ea_ en_ ec_; subst ea_; subst ec_; clear en_) | (go_at_call 60; (with_reducible refine (verditerref06_SameInts.calls k1 _ _ ((rd_T53 l0 x5_1).f1) _ _ ((rd_T53 l1 x5_1).f1) false _ ?side1 ?side2 ?side3 ?side4 A9.out).mono ?_); (case side1 => repeat (first | exact HR504_1.out | (with_reducible refine Kd.C_alloc ?_ _) | (with_reducible refine Kd.C_drewN ?_ _) | (with_reducible refine Kd.C_drew ?_))); (case side2 => exact HC504_1.out); (case side3 => repeat (first | exact HR505_1.out | (with_reducible refine Kd.C_alloc ?_ _) | (with_reducible refine Kd.C_drewN ?_ _) | (with_reducible refine Kd.C_drew ?_))); (case side4 => exact HC505_1.out); rintro e w' ⟨rfl, ⟨nd, rfl⟩⟩; (try first | exact ⟨rfl, _, World.drewN_drewN _ _ _⟩ | exact ⟨rfl, _, Eq.trans (World.drewN_drewN _ _ _) (congrArg (World.drewN _) (Nat.add_assoc _ _ _))⟩))))
                  go_ret
                  exact ⟨by first | rfl | (simp; done) | (simp [*]; done), by repeat (first | exact Drawn0.refl _ | apply Drawn0.step)⟩
              · replace c8 := Bool.eq_false_iff.mpr c8
                subst c8
                have H1 : (some false) = some r := by rw [if_neg (show ¬ (false = true) by decide)] at H; exact H
                clear H
                have H := H1
                clear H1
                obtain rfl := Option.some.inj H
                have p501 : 0 ≤ (x5_1 : Int) := of_decide_eq_true (by first | (with_reducible assumption) | assumption)
                have q501 : x5_1 < (l0.length : Int) := of_decide_eq_true (by first | (with_reducible assumption) | assumption)
                obtain ⟨ad501, A501_0, c501_0, A501_1, c501_1, e501, hx501_0, hx501_1, hl501_0, hi501_0, hl501_1, hi501_1⟩ := at_T53 HR0.out x5_1 p501 q501
                cases e501
                have HR501_0 := Aside0.mk hi501_0
                have HC501_0 := Aside0.mk hl501_0
                clear hi501_0 hl501_0
                have HR501_1 := Aside0.mk hi501_1
                have HC501_1 := Aside0.mk hl501_1
                clear hi501_1 hl501_1
                replace p501 := eq_true p501
                replace q501 := eq_true q501
                have p502 : 0 ≤ (x5_1 : Int) := of_decide_eq_true (by first | (with_reducible assumption) | assumption)
                have q502 : x5_1 < (l1.length : Int) := of_decide_eq_true (by first | (with_reducible assumption) | assumption)
                obtain ⟨ad502, A502_0, c502_0, A502_1, c502_1, e502, hx502_0, hx502_1, hl502_0, hi502_0, hl502_1, hi502_1⟩ := at_T53 HR1.out x5_1 p502 q502
                cases e502
                have HR502_0 := Aside0.mk hi502_0
                have HC502_0 := Aside0.mk hl502_0
                clear hi502_0 hl502_0
                have HR502_1 := Aside0.mk hi502_1
                have HC502_1 := Aside0.mk hl502_1
                clear hi502_1 hl502_1
                replace p502 := eq_true p502
                replace q502 := eq_true q502
                go_wp2_with (first | (go_at_call 60; (with_reducible refine (verditerref06_SameInts.calls k1 _ _ ((rd_T53 l0 x5_1).f0) _ _ ((rd_T53 l1 x5_1).f0) false _ ?side1 ?side2 ?side3 ?side4 A7.out).mono ?_); (case side1 => repeat (first | exact HR501_0.out | (with_reducible refine Kd.C_alloc ?_ _) | (with_reducible refine Kd.C_drewN ?_ _) | (with_reducible refine Kd.C_drew ?_))); (case side2 => exact HC501_0.out); (case side3 => repeat (first | exact HR502_0.out | (with_reducible refine Kd.C_alloc ?_ _) | (with_reducible refine Kd.C_drewN ?_ _) | (with_reducible refine Kd.C_drew ?_))); (case side4 => exact HC502_0.out); rintro e w' ⟨rfl, ⟨nd, rfl⟩⟩; (try first | exact ⟨rfl, _, World.drewN_drewN _ _ _⟩ | exact ⟨rfl, _, Eq.trans (World.drewN_drewN _ _ _) (congrArg (World.drewN _) (Nat.add_assoc _ _ _))⟩)))
                repeat (go_quiet (first | (go_at_call 60; (with_reducible refine (verditerref06_SameInts.calls k1 _ _ ((rd_T53 l0 x5_1).f0) _ _ ((rd_T53 l1 x5_1).f0) false _ ?side1 ?side2 ?side3 ?side4 A7.out).mono ?_); (case side1 => repeat (first | exact HR501_0.out | (with_reducible refine Kd.C_alloc ?_ _) | (with_reducible refine Kd.C_drewN ?_ _) | (with_reducible refine Kd.C_drew ?_))); (case side2 => exact HC501_0.out); (case side3 => repeat (first | exact HR502_0.out | (with_reducible refine Kd.C_alloc ?_ _) | (with_reducible refine Kd.C_drewN ?_ _) | (with_reducible refine Kd.C_drew ?_))); (case side4 => exact HC502_0.out); rintro e w' ⟨rfl, ⟨nd, rfl⟩⟩; (try first | exact ⟨rfl, _, World.drewN_drewN _ _ _⟩ | exact ⟨rfl, _, Eq.trans (World.drewN_drewN _ _ _) (congrArg (World.drewN _) (Nat.add_assoc _ _ _))⟩))); try go_wp2_with (first | (go_at_call 60; (with_reducible refine (verditerref06_SameInts.calls k1 _ _ ((rd_T53 l0 x5_1).f0) _ _ ((rd_T53 l1 x5_1).f0) false _ ?side1 ?side2 ?side3 ?side4 A7.out).mono ?_); (case side1 => repeat (first | exact HR501_0.out | (with_reducible refine Kd.C_alloc ?_ _) | (with_reducible refine Kd.C_drewN ?_ _) | (with_reducible refine Kd.C_drew ?_))); (case side2 => exact HC501_0.out); (case side3 => repeat (first | exact HR502_0.out | (with_reducible refine Kd.C_alloc ?_ _) | (with_reducible refine Kd.C_drewN ?_ _) | (with_reducible refine Kd.C_drew ?_))); (case side4 => exact HC502_0.out); rintro e w' ⟨rfl, ⟨nd, rfl⟩⟩; (try first | exact ⟨rfl, _, World.drewN_drewN _ _ _⟩ | exact ⟨rfl, _, Eq.trans (World.drewN_drewN _ _ _) (congrArg (World.drewN _) (Nat.add_assoc _ _ _))⟩))))
                go_ret
                exact ⟨by first | rfl | (simp; done) | (simp [*]; done), by repeat (first | exact Drawn0.refl _ | apply Drawn0.step)⟩
            · rw [if_neg c6] at H
              exact absurd H (by simp)
          · rw [if_neg c5] at H
            exact absurd H (by simp)
        · rw [if_neg c4] at H
          have c4b0 : decide (x5_1 < (l0.length : Int)) = false := decide_eq_false c4
          clear c4
          obtain rfl := Option.some.inj H
          go_wp2
          repeat (go_quiet (fail); try go_wp2)
          go_ret
          exact ⟨by first | rfl | (simp; done) | (simp [*]; done), by repeat (first | exact Drawn0.refl _ | apply Drawn0.step)⟩
  · rw [if_neg c3] at H
    have c3b0 : ((l0.length : Int) == (l1.length : Int)) = false := beq_eq_false_iff_ne.mpr c3
    have c3b1 : ((l0.length : Int) != (l1.length : Int)) = true := bne_iff_ne.mpr c3
    have c3b2 : (l0.length == l1.length) = false := by first | simpa using c3 | (simp at c3 ⊢; omega)
    obtain rfl := Option.some.inj H
    go_enter Try.func68, Try.ntmps68
    go_wp2
    repeat (go_quiet (fail); try go_wp2)
    go_ret
    exact ⟨by first | rfl | (simp; done) | (simp [*]; done), by repeat (first | exact Drawn0.refl _ | apply Drawn0.step)⟩

end Go.Proofs.Ytdbeochifofdoaa.X
end

section
/-! Lists and plans are the same as themselves. -/
namespace Go.Proofs.Ytdbeochifofdoaa.X
open Go.RowKit Go.Proofs.YtdbeochifofdoaaW.PrintWords Go.Proofs.YtdbeochifofdoaaW.PrintLast
set_option linter.unusedVariables false
theorem sameP_l0 (l : List S53) (hl : l.length ≤ 50) (h3 : ∀ y, y ∈ l → y.f0.length ≤ 50 ∧ y.f1.length ≤ 50) : ∀ (d k i : Nat), i ≤ l.length → l.length - i = d → d + 60 < k → verditerref06_Same.l0 k l l i = some true
  | 0, k + 1, i, h1, h2, _ => by
    unfold verditerref06_Same.l0
    rw [if_neg (by omega)]
  | d + 1, k + 1, i, h1, h2, h3' => by
    unfold verditerref06_Same.l0
    have ih := sameP_l0 l hl h3 d k (i + 1) (by omega) (by omega) (by omega)
    have hm := h3 _ (mem_getD z53 l i (by omega))
    rw [if_pos (by omega), if_pos (by omega), if_pos (by omega), show rd_T53 l (i : Int) = l.getD i z53 from rfl, same_f _ _ k (by omega) (by omega), Option.bind_some, beq_self_eq_true, if_pos rfl, same_f _ _ k (by omega) (by omega), Option.bind_some, beq_self_eq_true, if_pos rfl, wrs i (by omega), ih]
theorem sameP_f (l : List S53) (hl : l.length ≤ 50) (h3 : ∀ y, y ∈ l → y.f0.length ≤ 50 ∧ y.f1.length ≤ 50) (k : Nat) (hk : 200 ≤ k) : verditerref06_Same.f k l l = some true := by
  unfold verditerref06_Same.f
  rw [if_pos rfl]
  exact sameP_l0 l hl h3 l.length k 0 (by omega) (by omega) (by omega)
end Go.Proofs.Ytdbeochifofdoaa.X
end

section
-- Written by a program of this session (wip/hook.py, which runs the kit's print.py with contracts proved by hand). Not trusted: Lean checks it.
namespace Go.Proofs.Ytdbeochifofdoaa.X
open Go.RowKit Go.Proofs.YtdbeochifofdoaaW.PrintWords Go.Proofs.YtdbeochifofdoaaW.PrintLast Go.Proofs.YtdbeochifofdoaaW.PrintMore
attribute [local go_sem] max2_int min2_int max_two min_two max_three min_three max_four min_four   -- for this text's walks alone
set_option linter.unusedVariables false
set_option linter.unusedSimpArgs false

/-! ### verditerref06_Copy: function 70 -/
def verditerref06_Copy.l0 : Nat → List (S53) → List (S53) → Int → Option ((List (S53)))
  | 0, _, _, _ => none
  | k + 1, x0, x3, x4 => if x4 < (x0.length : Int) then ((some (([] : List Int) : List Int)).bind fun y593 => (if 0 ≤ x4 then (if y593.length + ((rd_T53 x0 x4).f0).length < 17592186044416 then ((some (([] : List Int) : List Int)).bind fun y600 => (if y600.length + ((rd_T53 x0 x4).f1).length < 17592186044416 then (if x3.length < 2932031007402 then (verditerref06_Copy.l0 k x0 (x3 ++ [(⟨(y593 ++ ((rd_T53 x0 x4).f0)), (y600 ++ ((rd_T53 x0 x4).f1))⟩ : S53)]) (wrap64 (x4 + 1))) else (none)) else (none))) else (none)) else (none))) else (some x3)
def verditerref06_Copy.f (k : Nat) (l0 : List (S53)) : Option ((List (S53))) := verditerref06_Copy.l0 k l0 ([] : List (S53)) 0
def verditerref06_Copy.T5 : Bool × List (List Nat × List Nat) := (true, [([], []), ([], []), ([], []), ([], []), ([2, 3], [2, 3]), ([4], [4]), ([5], [5]), ([1, 6], [1, 6]), ([], []), ([], []), ([], []), ([9, 10], [9, 10]), ([11], [11]), ([12], [12]), ([8, 13, 7], [8, 13]), ([7, 14], [7, 14]), ([15], [15]), ([0, 16, 14], [0, 16]), ([17, 17, 0, 1, 2, 3, 4, 5, 6, 7, 8, 9, 10, 11, 12, 13, 14, 15, 16, 17], [0, 17])])
def verditerref06_Copy.B5 : List Nat := [0, 0, 0, 0, 12, 28, 60, 126, 0, 0, 0, 1536, 3584, 7680, 16382, 32766, 65534, 131071, 262143]
theorem verditerref06_Copy.tab5 : rtab .any (opsOf Try.f70 5) = verditerref06_Copy.T5 := by kernel_rfl
theorem verditerref06_Copy.bits5 : waitsOk verditerref06_Copy.T5.2 verditerref06_Copy.B5 = true := by kernel_rfl
set_option maxHeartbeats 8000000 in
set_option maxRecDepth 100000 in
theorem verditerref06_Copy.calls (k : Nat) (A0 : Option Addr) (c0 : Nat) (l0 : List (S53)) (r : List (S53)) (w : World) (hr0 : Kd.C k53 w A0 l0.length l0) (hc0 : l0.length ≤ c0) (h : verditerref06_Copy.f k l0 = some r) :
    Calls Try.prog 70 #[.slice A0 l0.length c0] w fun e w' => ∃ v0_ : Value, e = .returned (v0_) ∧ Kd.S k53 53 w' w.heap.size (fun _ => True) v0_ r ∧ Below w.heap.size w w' := by
  have hu53 := Try.underlying53
  have HR0 := Aside0.mk hr0
  have HC0 := Aside0.mk hc0
  clear hr0 hc0
  have HB := Aside0.mk (Below.refl w.heap.size w)
  have H : (verditerref06_Copy.l0 k l0 ([] : List (S53)) 0) = some r := h
  clear h
  have H' := Aside0.mk H
  clear H
  go_enter Try.func70, Try.ntmps70
  go_wp2
  go_loopg [3, 4] k (fun kq v3 v4 w' => ∃ (x3_1 : List (S53)) (x4_1 : Int), v4 = .int .i64 x4_1 ∧ Aside0 (verditerref06_Copy.l0 kq l0 x3_1 x4_1 = some r) ∧ Aside0 (kq ≤ k) ∧ Aside0 (Kd.S k53 53 w' w.heap.size (fun _ => True) v3 x3_1) ∧ Aside0 (Below w.heap.size w w'))
  case atStart => exact ⟨(([] : List (S53))), (0), (by first | rfl | (simp; done) | (simp [*]; done)), H', ⟨Nat.le_refl _⟩, ⟨by first | exact Kd.S_nil _ _ _ _ _ | exact Kd.N_nil _ _ _ _ _ | exact Kd.V_nil _ _ _ _ _ | exact Kd.Q_nil _ _ _ _ _ | exact Kd.R_nil _ _ _ _ _⟩, ⟨by repeat (first | (with_reducible first | exact HB.out | apply below_alloc | apply pw_below_drewN | apply below_drew1) | exact HB.out)⟩⟩
  case round =>
    clear H'
    obtain ⟨x3_1, x4_1, rfl, HA, HK1, HO_3, HB⟩ := hrel
    cases gk with
    | zero => exact absurd HA.out (by simp [verditerref06_Copy.l0])
    | succ k1 =>
      have H := HA.out
      clear HA
      simp only [verditerref06_Copy.l0] at H
      by_cases c2 : x4_1 < (l0.length : Int)
      · rw [if_pos c2] at H
        have c2b0 : decide (x4_1 < (l0.length : Int)) = true := decide_eq_true c2
        clear c2
        obtain ⟨y593, hy593⟩ : ∃ y_ : List Int, y_ = (([] : List Int)) := ⟨_, rfl⟩
        replace H : (if 0 ≤ x4_1 then (if y593.length + ((rd_T53 l0 x4_1).f0).length < 17592186044416 then ((some (([] : List Int) : List Int)).bind fun y600 => (if y600.length + ((rd_T53 l0 x4_1).f1).length < 17592186044416 then (if x3_1.length < 2932031007402 then (verditerref06_Copy.l0 k1 l0 (x3_1 ++ [(⟨(y593 ++ ((rd_T53 l0 x4_1).f0)), (y600 ++ ((rd_T53 l0 x4_1).f1))⟩ : S53)]) (wrap64 (x4_1 + 1))) else (none)) else (none))) else (none)) else (none)) = some r := by first | (rw [hy593]; with_reducible exact H) | (have H2_ := (Option.bind_some _ _).symm.trans H; rw [hy593]; with_reducible exact H2_) | (have H2_ := (Option.bind_some _ _).symm.trans H; with_reducible exact H2_) | with_reducible exact H | (rw [hy593]; exact H) | exact H
        have Ny593 := Aside0.mk hy593
        clear hy593
        by_cases c3 : 0 ≤ x4_1
        · rw [if_pos c3] at H
          have c3b0 : decide (0 ≤ x4_1) = true := decide_eq_true c3
          clear c3
          by_cases c4 : y593.length + ((rd_T53 l0 x4_1).f0).length < 17592186044416
          · rw [if_pos c4] at H
            have LMc4 := Aside0.mk c4
            clear c4
            obtain ⟨y597, hy597⟩ : ∃ y_ : List Int, y_ = (y593 ++ ((rd_T53 l0 x4_1).f0)) := ⟨_, rfl⟩
            replace H : ((some (([] : List Int) : List Int)).bind fun y600 => (if y600.length + ((rd_T53 l0 x4_1).f1).length < 17592186044416 then (if x3_1.length < 2932031007402 then (verditerref06_Copy.l0 k1 l0 (x3_1 ++ [(⟨y597, (y600 ++ ((rd_T53 l0 x4_1).f1))⟩ : S53)]) (wrap64 (x4_1 + 1))) else (none)) else (none))) = some r := by first | (rw [hy597]; with_reducible exact H) | (have H2_ := (Option.bind_some _ _).symm.trans H; rw [hy597]; with_reducible exact H2_) | (have H2_ := (Option.bind_some _ _).symm.trans H; with_reducible exact H2_) | with_reducible exact H | (rw [hy597]; exact H) | exact H
            have Ny597 := Aside0.mk hy597
            clear hy597
            obtain ⟨y600, hy600⟩ : ∃ y_ : List Int, y_ = (([] : List Int)) := ⟨_, rfl⟩
            replace H : (if y600.length + ((rd_T53 l0 x4_1).f1).length < 17592186044416 then (if x3_1.length < 2932031007402 then (verditerref06_Copy.l0 k1 l0 (x3_1 ++ [(⟨y597, (y600 ++ ((rd_T53 l0 x4_1).f1))⟩ : S53)]) (wrap64 (x4_1 + 1))) else (none)) else (none)) = some r := by first | (rw [hy600]; with_reducible exact H) | (have H2_ := (Option.bind_some _ _).symm.trans H; rw [hy600]; with_reducible exact H2_) | (have H2_ := (Option.bind_some _ _).symm.trans H; with_reducible exact H2_) | with_reducible exact H | (rw [hy600]; exact H) | exact H
            have Ny600 := Aside0.mk hy600
            clear hy600
            by_cases c5 : y600.length + ((rd_T53 l0 x4_1).f1).length < 17592186044416
            · rw [if_pos c5] at H
              have LMc5 := Aside0.mk c5
              clear c5
              obtain ⟨y604, hy604⟩ : ∃ y_ : List Int, y_ = (y600 ++ ((rd_T53 l0 x4_1).f1)) := ⟨_, rfl⟩
              replace H : (if x3_1.length < 2932031007402 then (verditerref06_Copy.l0 k1 l0 (x3_1 ++ [(⟨y597, y604⟩ : S53)]) (wrap64 (x4_1 + 1))) else (none)) = some r := by first | (rw [hy604]; with_reducible exact H) | (have H2_ := (Option.bind_some _ _).symm.trans H; rw [hy604]; with_reducible exact H2_) | (have H2_ := (Option.bind_some _ _).symm.trans H; with_reducible exact H2_) | with_reducible exact H | (rw [hy604]; exact H) | exact H
              have Ny604 := Aside0.mk hy604
              clear hy604
              by_cases c6 : x3_1.length < 2932031007402
              · rw [if_pos c6] at H
                have LMc6 := Aside0.mk c6
                clear c6
                obtain ⟨y607, hy607⟩ : ∃ y_ : List (S53), y_ = (x3_1 ++ [(⟨y597, y604⟩ : S53)]) := ⟨_, rfl⟩
                replace H : (verditerref06_Copy.l0 k1 l0 y607 (wrap64 (x4_1 + 1))) = some r := by first | (rw [hy607]; with_reducible exact H) | (have H2_ := (Option.bind_some _ _).symm.trans H; rw [hy607]; with_reducible exact H2_) | (have H2_ := (Option.bind_some _ _).symm.trans H; with_reducible exact H2_) | with_reducible exact H | (rw [hy607]; exact H) | exact H
                have Ny607 := Aside0.mk hy607
                clear hy607
                have H' := Aside0.mk H
                clear H
                obtain ⟨Ao7, co7, eo7⟩ := Kd.S_slice HO_3.out
                subst eo7
                try go_wp2
                have n0_ := Aside0.mk (Kd.S_drew HO_3.out)
                have n1_ := Aside0.mk (below_drew1 HB.out)
                clear HO_3
                clear HB
                have HO_3 := n0_
                have HB := n1_
                clear n0_ n1_
                have p596 : 0 ≤ (x4_1 : Int) := of_decide_eq_true (by first | (with_reducible assumption) | assumption)
                have q596 : x4_1 < (l0.length : Int) := of_decide_eq_true (by first | (with_reducible assumption) | assumption)
                obtain ⟨ad596, A596_0, c596_0, A596_1, c596_1, e596, hx596_0, hx596_1, hl596_0, hi596_0, hl596_1, hi596_1⟩ := at_T53 HR0.out x4_1 p596 q596
                have hw596_1 := hx596_1
                have hw596_0 := hx596_0
                cases e596
                replace hx596_0 := (HB.out.cell (World.block_lt_of_cell? w _ hx596_0)).trans hx596_0
                replace hx596_1 := (HB.out.cell (World.block_lt_of_cell? w _ hx596_1)).trans hx596_1
                have HR596_0 := Aside0.mk hi596_0
                have HC596_0 := Aside0.mk hl596_0
                clear hi596_0 hl596_0
                have HR596_1 := Aside0.mk hi596_1
                have HC596_1 := Aside0.mk hl596_1
                clear hi596_1 hl596_1
                replace p596 := eq_true p596
                replace q596 := eq_true q596
                have p603 : 0 ≤ (x4_1 : Int) := of_decide_eq_true (by first | (with_reducible assumption) | assumption)
                have q603 : x4_1 < (l0.length : Int) := of_decide_eq_true (by first | (with_reducible assumption) | assumption)
                obtain ⟨ad603, A603_0, c603_0, A603_1, c603_1, e603, hx603_0, hx603_1, hl603_0, hi603_0, hl603_1, hi603_1⟩ := at_T53 HR0.out x4_1 p603 q603
                have hw603_1 := hx603_1
                have hw603_0 := hx603_0
                obtain rfl : ad596 = ad603 := (by injection e603)
                replace hx603_0 := (HB.out.cell (World.block_lt_of_cell? w _ hx603_0)).trans hx603_0
                replace hx603_1 := (HB.out.cell (World.block_lt_of_cell? w _ hx603_1)).trans hx603_1
                have HR603_0 := Aside0.mk hi603_0
                have HC603_0 := Aside0.mk hl603_0
                clear hi603_0 hl603_0
                have HR603_1 := Aside0.mk hi603_1
                have HC603_1 := Aside0.mk hl603_1
                clear hi603_1 hl603_1
                replace p603 := eq_true p603
                replace q603 := eq_true q603
                have ea_ := Option.some.inj (hx596_0.symm.trans hx603_0)
                injection ea_ with ea_ en_ ec_
                subst ea_
                subst ec_
                clear en_
                have ea_ := Option.some.inj (hx596_1.symm.trans hx603_1)
                injection ea_ with ea_ en_ ec_
                subst ea_
                subst ec_
                clear en_
                refine start_ (n := 19) (S := fun w' => w'.cell? (ad596.add ((x4_1).toNat * 2)) = some (.slice A596_0 ((rd_T53 l0 x4_1).f0).length c596_0) ∧ w'.cell? ⟨(ad596.add ((x4_1).toNat * 2)).block, (ad596.add ((x4_1).toNat * 2)).off + 1, none⟩ = some (.slice A596_1 ((rd_T53 l0 x4_1).f1).length c596_1) ∧ w'.cell? (ad596.add ((x4_1).toNat * 2)) = some (.slice A596_0 ((rd_T53 l0 x4_1).f0).length c596_0) ∧ w'.cell? ⟨(ad596.add ((x4_1).toNat * 2)).block, (ad596.add ((x4_1).toNat * 2)).off + 1, none⟩ = some (.slice A596_1 ((rd_T53 l0 x4_1).f1).length c596_1)) (ds := []) #[false, false, false, false, false, false, false, false, false, false, false, false, false, false, false, false, false, false, false] (by kernel_rfl) rfl rfl ⟨((HB.out.cell (World.block_lt_of_cell? w _ hw596_0)).trans hw596_0), ((HB.out.cell (World.block_lt_of_cell? w _ hw596_1)).trans hw596_1), ((HB.out.cell (World.block_lt_of_cell? w _ hw603_0)).trans hw603_0), ((HB.out.cell (World.block_lt_of_cell? w _ hw603_1)).trans hw603_1)⟩ (fun hHeld => ?_); refine with_tabW verditerref06_Copy.tab5 verditerref06_Copy.bits5 (fun HT_ HW_ => ?_)
                generalize wr.drew = w8 at HO_3 HB HR596_0 HR596_1 HR603_0 HR603_1 hx596_0 hx596_1 hx603_0 hx603_1 hHeld ⊢
                refine pure_ (i := 0) (N := some 11) (v := ?_) (a' := ?_) #[true, false, false, false, false, false, false, false, false, false, false, false, false, false, false, false, false, false, false] rfl rfl (any_of HT_.out (by kernel_rfl)) (fun _ _ _ h => h) (Or.inl ⟨by rfl, ?_⟩) ?_ ?_
                rotate_left
                · intro w'
                  go_simp
                  with_reducible rfl
                rotate_left
                · simp only [Act.put, List.setIfInBounds_toArray, List.set_cons_zero, List.set_cons_succ, i64_w, i32_w]
                  rfl
                refine pure_ (i := 2) (N := some 13) (v := ?_) (a' := ?_) #[true, false, true, false, false, false, false, false, false, false, false, false, false, false, false, false, false, false, false] rfl rfl (any_of HT_.out (by kernel_rfl)) (fun _ _ _ h => h) (Or.inl ⟨by rfl, ?_⟩) ?_ ?_
                rotate_left
                · intro w'
                  go_simp
                  with_reducible rfl
                rotate_left
                · simp only [Act.put, List.setIfInBounds_toArray, List.set_cons_zero, List.set_cons_succ, i64_w, i32_w]
                  rfl
                refine pure_ (i := 3) (N := some 14) (v := ?_) (a' := ?_) #[true, false, true, true, false, false, false, false, false, false, false, false, false, false, false, false, false, false, false] rfl rfl (any_of HT_.out (by kernel_rfl)) (fun _ _ _ h => h) (Or.inl ⟨by rfl, ?_⟩) ?_ ?_
                rotate_left
                · intro w'
                  go_simp
                  with_reducible rfl
                rotate_left
                · simp only [Act.put, List.setIfInBounds_toArray, List.set_cons_zero, List.set_cons_succ, i64_w, i32_w]
                  rfl
                refine pure_ (i := 4) (N := some 15) (v := ?_) (a' := ?_) #[true, false, true, true, true, false, false, false, false, false, false, false, false, false, false, false, false, false, false] rfl rfl (any_of HT_.out (by kernel_rfl)) (fun _ _ _ h => h) (Or.inl ⟨by rfl, ?_⟩) ?_ ?_
                rotate_left
                · intro w'
                  go_simp
                  with_reducible rfl
                rotate_left
                · simp only [Act.put, List.setIfInBounds_toArray, List.set_cons_zero, List.set_cons_succ, i64_w, i32_w]
                  rfl
                refine pure_ (i := 5) (N := some 16) (v := ?_) (a' := ?_) #[true, false, true, true, true, true, false, false, false, false, false, false, false, false, false, false, false, false, false] rfl rfl (any_of HT_.out (by kernel_rfl)) (fun _ _ _ h => h) (Or.inl ⟨by rfl, ?_⟩) ?_ ?_
                rotate_left
                · intro w'
                  go_simp
                  with_reducible rfl
                rotate_left
                · simp only [Act.put, List.setIfInBounds_toArray, List.set_cons_zero, List.set_cons_succ, i64_w, i32_w]
                  rfl
                refine pure_ (i := 9) (N := some 20) (v := ?_) (a' := ?_) #[true, false, true, true, true, true, false, false, false, true, false, false, false, false, false, false, false, false, false] rfl rfl (any_of HT_.out (by kernel_rfl)) (fun _ _ _ h => h) (Or.inl ⟨by rfl, ?_⟩) ?_ ?_
                rotate_left
                · intro w'
                  go_simp
                  with_reducible rfl
                rotate_left
                · simp only [Act.put, List.setIfInBounds_toArray, List.set_cons_zero, List.set_cons_succ, i64_w, i32_w]
                  rfl
                refine pure_ (i := 10) (N := some 21) (v := ?_) (a' := ?_) #[true, false, true, true, true, true, false, false, false, true, true, false, false, false, false, false, false, false, false] rfl rfl (any_of HT_.out (by kernel_rfl)) (fun _ _ _ h => h) (Or.inl ⟨by rfl, ?_⟩) ?_ ?_
                rotate_left
                · intro w'
                  go_simp
                  with_reducible rfl
                rotate_left
                · simp only [Act.put, List.setIfInBounds_toArray, List.set_cons_zero, List.set_cons_succ, i64_w, i32_w]
                  rfl
                refine pure_ (i := 11) (N := some 22) (v := ?_) (a' := ?_) #[true, false, true, true, true, true, false, false, false, true, true, true, false, false, false, false, false, false, false] rfl rfl (any_of HT_.out (by kernel_rfl)) (fun _ _ _ h => h) (Or.inl ⟨by rfl, ?_⟩) ?_ ?_
                rotate_left
                · intro w'
                  go_simp
                  with_reducible rfl
                rotate_left
                · simp only [Act.put, List.setIfInBounds_toArray, List.set_cons_zero, List.set_cons_succ, i64_w, i32_w]
                  rfl
                refine pure_ (i := 12) (N := some 23) (v := ?_) (a' := ?_) #[true, false, true, true, true, true, false, false, false, true, true, true, true, false, false, false, false, false, false] rfl rfl (any_of HT_.out (by kernel_rfl)) (fun _ _ _ h => h) (Or.inl ⟨by rfl, ?_⟩) ?_ ?_
                rotate_left
                · intro w'
                  go_simp
                  with_reducible rfl
                rotate_left
                · simp only [Act.put, List.setIfInBounds_toArray, List.set_cons_zero, List.set_cons_succ, i64_w, i32_w]
                  rfl
                refine take_ (i := 6) (N := some 17) (v := ?_) (a' := ?_) #[true, false, true, true, true, true, true, false, false, true, true, true, true, false, false, false, false, false, false] rfl rfl (take_ofW HT_.out HW_.out (by kernel_rfl)) (fun _ _ _ h => h) (Or.inl ⟨by rfl, ?_⟩) hHeld ?_ ?_
                rotate_left
                · rintro w' ⟨s0, s1, s2, s3⟩
                  go_simp
                  with_reducible rfl
                rotate_left
                · simp only [Act.put, List.setIfInBounds_toArray, List.set_cons_zero, List.set_cons_succ, i64_w, i32_w]
                  rfl
                refine take_ (i := 13) (N := some 24) (v := ?_) (a' := ?_) #[true, false, true, true, true, true, true, false, false, true, true, true, true, true, false, false, false, false, false] rfl rfl (take_ofW HT_.out HW_.out (by kernel_rfl)) (fun _ _ _ h => h) (Or.inl ⟨by rfl, ?_⟩) hHeld ?_ ?_
                rotate_left
                · rintro w' ⟨s0, s1, s2, s3⟩
                  go_simp
                  with_reducible rfl
                rotate_left
                · simp only [Act.put, List.setIfInBounds_toArray, List.set_cons_zero, List.set_cons_succ, i64_w, i32_w]
                  rfl
                refine join_ (σ := Value × Value × Value) 5 #[true, true, true, true, true, true, true, true, true, true, true, true, true, true, false, false, false, false, false] (fun s_ => [(12, s_.1), (18, s_.2.1), (19, s_.2.2)]) (fun s_ w' => (w'.cell? (ad596.add ((x4_1).toNat * 2)) = some (.slice A596_0 ((rd_T53 l0 x4_1).f0).length c596_0) ∧ w'.cell? ⟨(ad596.add ((x4_1).toNat * 2)).block, (ad596.add ((x4_1).toNat * 2)).off + 1, none⟩ = some (.slice A596_1 ((rd_T53 l0 x4_1).f1).length c596_1) ∧ w'.cell? (ad596.add ((x4_1).toNat * 2)) = some (.slice A596_0 ((rd_T53 l0 x4_1).f0).length c596_0) ∧ w'.cell? ⟨(ad596.add ((x4_1).toNat * 2)).block, (ad596.add ((x4_1).toNat * 2)).off + 1, none⟩ = some (.slice A596_1 ((rd_T53 l0 x4_1).f1).length c596_1)) ∧ (Kd.R (Kd.int .i64) 3 w' w.heap.size (fun k_ => some k_ ≠ (s_.2.2 : Value).ownBlock) s_.2.1 y597) ∧ (Kd.R (Kd.int .i64) 3 w' w.heap.size (fun k_ => some k_ ≠ (s_.2.1 : Value).ownBlock) s_.2.2 y600) ∧ (Kd.S k53 53 w' w.heap.size (fun k_ => some k_ ≠ (s_.2.1 : Value).ownBlock ∧ some k_ ≠ (s_.2.2 : Value).ownBlock) (.slice Ao7 x3_1.length co7) x3_1) ∧ (Below w.heap.size w w')) ?_ ?_
                rotate_left
                · intro hCont
                  refine two_ (i := 1) (j := 8) (Ni := some 12) (Nj := some 19) #[true, true, true, true, true, true, true, false, false, true, true, true, true, true, false, false, false, false, false] #[true, false, true, true, true, true, true, false, true, true, true, true, true, true, false, false, false, false, false] rfl rfl rfl rfl (two_of HT_.out (by kernel_rfl)) (by decide) (by decide) (fun K hK => ?_) (fun K hK => ?_)
                  · skip
                    refine Kd.R_lit_step (Kd.int .i64) _ 3 ?hg (N := 12) ?hd (xs := ([] : List Int)) (inner := []) (ok := fun _ => True) (okp := fun _ => True) ?hr ?hp (fun _ hk => hk) trivial (Below.refl _ _) (Nat.le_refl _) (by simp) ?_; (case hd => rfl); (case hg => rfl); (case hr => first | (go_simp; done) | (go_simp; rfl)); (case hp => exact (Reps.none _ _))
                    intro v594 w9 ho10 hb hg_ hnew_
                    clear hg_ hnew_
                    (first | rw [← Ny593.out] at ho10 | (simp only [Int.reduceToNat] at ho10; rw [← Ny593.out] at ho10))
                    have n0_ := Aside0.mk (Kd.S_elder' (by (with_reducible repeat (first | apply Kd.S_alloc | apply Kd.S_drewN | apply Kd.S_drew)); exact HO_3.out) (Kd.R_base ho10) hb)
                    have n1_ := Aside0.mk (Kd.R_lower ho10 (below_size (by repeat (first | (with_reducible first | exact HB.out | apply below_alloc | apply pw_below_drewN | apply below_drew1) | exact HB.out))))
                    have n2_ := Aside0.mk (below_step (by repeat (first | (with_reducible first | exact HB.out | apply below_alloc | apply pw_below_drewN | apply below_drew1) | exact HB.out)) hb)
                    clear HO_3
                    clear HB
                    have HO_3 := n0_
                    have HO595 := n1_
                    have HB := n2_
                    clear n0_ n1_ n2_
                    clear hb ho10
                    refine hK.out _ _ ⟨((HB.out.cell (World.block_lt_of_cell? w _ hw596_0)).trans hw596_0), ((HB.out.cell (World.block_lt_of_cell? w _ hw596_1)).trans hw596_1), ((HB.out.cell (World.block_lt_of_cell? w _ hw603_0)).trans hw603_0), ((HB.out.cell (World.block_lt_of_cell? w _ hw603_1)).trans hw603_1)⟩ (fun hHeld => ?_)
                    clear hK K
                    refine norm_ (a' := ?_) ?_ ?_
                    rotate_left
                    · show Act.put _ (some 12) _ = _
                      simp only [Act.put, List.setIfInBounds_toArray, List.set_cons_zero, List.set_cons_succ, i64_w, i32_w]
                      rfl
                    refine two_ (i := 7) (j := 8) (Ni := some 18) (Nj := some 19) #[true, true, true, true, true, true, true, true, false, true, true, true, true, true, false, false, false, false, false] #[true, true, true, true, true, true, true, false, true, true, true, true, true, true, false, false, false, false, false] rfl rfl rfl rfl (two_of HT_.out (by kernel_rfl)) (by decide) (by decide) (fun K hK => ?_) (fun K hK => ?_)
                    · skip
                      refine Kd.R_append_rows_step (Kd.int .i64) (w0 := w) w.heap.size (by rfl) (.tmp 12) (.tmp 17) 43 3 (.int .i64 0) 8 rfl Try.underlying43 info3 rfl (by decide) (by omega) v594 y593 ((rd_T53 l0 x4_1).f0) _ _ _ (fun _ => True) (fun _ => False) rfl rfl ?aO ?aR (fun _ _ h => h) (fun _ h => h.elim) ?aF ?aB ?aS ?aL ?_
                      (case aR => repeat (first | exact (Kd.C_below HR596_0.out HB.out) | (with_reducible refine Kd.C_alloc ?_ _) | (with_reducible refine Kd.C_drewN ?_ _) | (with_reducible refine Kd.C_drew ?_)))
                      (case aB => exact (by repeat (first | (with_reducible first | exact HB.out | apply below_alloc | apply pw_below_drewN | apply below_drew1) | exact HB.out)))
                      (case aF => exact (fun _ _ => trivial))
                      (case aO => exact (by (with_reducible repeat (first | apply Kd.R_alloc | apply Kd.R_drewN | apply Kd.R_drew)); exact HO595.out))
                      (case aS => exact (below_size (by repeat (first | (with_reducible first | exact HB.out | apply below_alloc | apply pw_below_drewN | apply below_drew1) | exact HB.out))))
                      (case aL => have := LMc4.out; omega)
                      intro v598 w11 ho hb hg hat
                      rw [← Ny597.out] at ho
                      have n0_ := Aside0.mk (Kd.S_after (ok := (fun _ => True)) (by (with_reducible repeat (first | apply Kd.S_alloc | apply Kd.S_drewN | apply Kd.S_drew)); exact HO_3.out) hg hat)
                      have n1_ := Aside0.mk (hb)
                      have n2_ := Aside0.mk (ho)
                      clear HO_3
                      clear HB
                      clear HO595
                      have HO_3 := n0_
                      have HB := n1_
                      have HO599 := n2_
                      clear n0_ n1_ n2_
                      clear ho hb hg hat
                      refine hK.out _ _ ⟨((HB.out.cell (World.block_lt_of_cell? w _ hw596_0)).trans hw596_0), ((HB.out.cell (World.block_lt_of_cell? w _ hw596_1)).trans hw596_1), ((HB.out.cell (World.block_lt_of_cell? w _ hw603_0)).trans hw603_0), ((HB.out.cell (World.block_lt_of_cell? w _ hw603_1)).trans hw603_1)⟩ (fun hHeld => ?_)
                      clear hK K
                      refine norm_ (a' := ?_) ?_ ?_
                      rotate_left
                      · show Act.put _ (some 18) _ = _
                        simp only [Act.put, List.setIfInBounds_toArray, List.set_cons_zero, List.set_cons_succ, i64_w, i32_w]
                        rfl
                      refine one_ (i := 8) (N := some 19) #[true, true, true, true, true, true, true, true, true, true, true, true, true, true, false, false, false, false, false] rfl rfl (one_of HT_.out (by kernel_rfl)) (by decide) (fun K hK => ?_)
                      refine Kd.R_lit_step (Kd.int .i64) _ 3 ?hg (N := 19) ?hd (xs := ([] : List Int)) (inner := []) (ok := fun _ => True) (okp := fun _ => True) ?hr ?hp (fun _ hk => hk) trivial (Below.refl _ _) (Nat.le_refl _) (by simp) ?_; (case hd => rfl); (case hg => rfl); (case hr => first | (go_simp; done) | (go_simp; rfl)); (case hp => exact (Reps.none _ _))
                      intro v601 w12 ho13 hb hg_ hnew_
                      clear hg_ hnew_
                      (first | rw [← Ny600.out] at ho13 | (simp only [Int.reduceToNat] at ho13; rw [← Ny600.out] at ho13))
                      have n0_ := Aside0.mk (Kd.S_elder' (by (with_reducible repeat (first | apply Kd.S_alloc | apply Kd.S_drewN | apply Kd.S_drew)); exact HO_3.out) (Kd.R_base ho13) hb)
                      have n1_ := Aside0.mk (Kd.R_elder' (by (with_reducible repeat (first | apply Kd.R_alloc | apply Kd.R_drewN | apply Kd.R_drew)); exact HO599.out) (Kd.R_base ho13) hb)
                      have n2_ := Aside0.mk (Kd.R_lower (Kd.R_new' ho13 (Kd.R_lt (by (with_reducible repeat (first | apply Kd.R_alloc | apply Kd.R_drewN | apply Kd.R_drew)); exact HO599.out))) (below_size (by repeat (first | (with_reducible first | exact HB.out | apply below_alloc | apply pw_below_drewN | apply below_drew1) | exact HB.out))))
                      have n3_ := Aside0.mk (below_step (by repeat (first | (with_reducible first | exact HB.out | apply below_alloc | apply pw_below_drewN | apply below_drew1) | exact HB.out)) hb)
                      clear HO_3
                      clear HO599
                      clear HB
                      have HO_3 := n0_
                      have HO599 := n1_
                      have HO602 := n2_
                      have HB := n3_
                      clear n0_ n1_ n2_ n3_
                      clear hb ho13
                      refine hK.out _ _ ⟨((HB.out.cell (World.block_lt_of_cell? w _ hw596_0)).trans hw596_0), ((HB.out.cell (World.block_lt_of_cell? w _ hw596_1)).trans hw596_1), ((HB.out.cell (World.block_lt_of_cell? w _ hw603_0)).trans hw603_0), ((HB.out.cell (World.block_lt_of_cell? w _ hw603_1)).trans hw603_1)⟩ (fun hHeld => ?_)
                      clear hK K
                      refine norm_ (a' := ?_) ?_ ?_
                      rotate_left
                      · show Act.put _ (some 19) _ = _
                        simp only [Act.put, List.setIfInBounds_toArray, List.set_cons_zero, List.set_cons_succ, i64_w, i32_w]
                        rfl
                      exact norm_ (by simp only [putAll, Act.put, List.setIfInBounds_toArray, List.set_cons_zero, List.set_cons_succ]) (hCont (v594, v598, v601) _ ⟨hHeld, (by (with_reducible repeat (first | apply Kd.R_alloc | apply Kd.R_drewN | apply Kd.R_drew)); exact Kd.R_mono HO599.out (fun _ hk => hk.2)), (by (with_reducible repeat (first | apply Kd.R_alloc | apply Kd.R_drewN | apply Kd.R_drew)); exact Kd.R_mono HO602.out (fun _ hk => hk.2)), (by (with_reducible repeat (first | apply Kd.S_alloc | apply Kd.S_drewN | apply Kd.S_drew)); exact Kd.S_mono HO_3.out (fun _ hk => ⟨hk.1.2, hk.2⟩)), (by repeat (first | (with_reducible first | exact HB.out | apply below_alloc | apply pw_below_drewN | apply below_drew1) | exact HB.out))⟩)
                    · skip
                      refine Kd.R_lit_step (Kd.int .i64) _ 3 ?hg (N := 19) ?hd (xs := ([] : List Int)) (inner := []) (ok := fun _ => True) (okp := fun _ => True) ?hr ?hp (fun _ hk => hk) trivial (Below.refl _ _) (Nat.le_refl _) (by simp) ?_; (case hd => rfl); (case hg => rfl); (case hr => first | (go_simp; done) | (go_simp; rfl)); (case hp => exact (Reps.none _ _))
                      intro v601 w11 ho12 hb hg_ hnew_
                      clear hg_ hnew_
                      (first | rw [← Ny600.out] at ho12 | (simp only [Int.reduceToNat] at ho12; rw [← Ny600.out] at ho12))
                      have n0_ := Aside0.mk (Kd.S_elder' (by (with_reducible repeat (first | apply Kd.S_alloc | apply Kd.S_drewN | apply Kd.S_drew)); exact HO_3.out) (Kd.R_base ho12) hb)
                      have n1_ := Aside0.mk (Kd.R_elder' (by (with_reducible repeat (first | apply Kd.R_alloc | apply Kd.R_drewN | apply Kd.R_drew)); exact HO595.out) (Kd.R_base ho12) hb)
                      have n2_ := Aside0.mk (Kd.R_lower (Kd.R_new' ho12 (Kd.R_lt (by (with_reducible repeat (first | apply Kd.R_alloc | apply Kd.R_drewN | apply Kd.R_drew)); exact HO595.out))) (below_size (by repeat (first | (with_reducible first | exact HB.out | apply below_alloc | apply pw_below_drewN | apply below_drew1) | exact HB.out))))
                      have n3_ := Aside0.mk (below_step (by repeat (first | (with_reducible first | exact HB.out | apply below_alloc | apply pw_below_drewN | apply below_drew1) | exact HB.out)) hb)
                      clear HO_3
                      clear HO595
                      clear HB
                      have HO_3 := n0_
                      have HO595 := n1_
                      have HO602 := n2_
                      have HB := n3_
                      clear n0_ n1_ n2_ n3_
                      clear hb ho12
                      refine hK.out _ _ ⟨((HB.out.cell (World.block_lt_of_cell? w _ hw596_0)).trans hw596_0), ((HB.out.cell (World.block_lt_of_cell? w _ hw596_1)).trans hw596_1), ((HB.out.cell (World.block_lt_of_cell? w _ hw603_0)).trans hw603_0), ((HB.out.cell (World.block_lt_of_cell? w _ hw603_1)).trans hw603_1)⟩ (fun hHeld => ?_)
                      clear hK K
                      refine norm_ (a' := ?_) ?_ ?_
                      rotate_left
                      · show Act.put _ (some 19) _ = _
                        simp only [Act.put, List.setIfInBounds_toArray, List.set_cons_zero, List.set_cons_succ, i64_w, i32_w]
                        rfl
                      refine one_ (i := 7) (N := some 18) #[true, true, true, true, true, true, true, true, true, true, true, true, true, true, false, false, false, false, false] rfl rfl (one_of HT_.out (by kernel_rfl)) (by decide) (fun K hK => ?_)
                      refine Kd.R_append_rows_step (Kd.int .i64) (w0 := w) w.heap.size (by rfl) (.tmp 12) (.tmp 17) 43 3 (.int .i64 0) 8 rfl Try.underlying43 info3 rfl (by decide) (by omega) v594 y593 ((rd_T53 l0 x4_1).f0) _ _ _ (fun k_ => some k_ ≠ (v601 : Value).ownBlock) (fun _ => False) rfl rfl ?aO ?aR (fun _ _ h => h) (fun _ h => h.elim) ?aF ?aB ?aS ?aL ?_
                      (case aR => repeat (first | exact (Kd.C_below HR596_0.out HB.out) | (with_reducible refine Kd.C_alloc ?_ _) | (with_reducible refine Kd.C_drewN ?_ _) | (with_reducible refine Kd.C_drew ?_)))
                      (case aB => exact (by repeat (first | (with_reducible first | exact HB.out | apply below_alloc | apply pw_below_drewN | apply below_drew1) | exact HB.out)))
                      (case aF => exact (fun k_ hk => Kd.fresh' (Kd.R_lt (by (with_reducible repeat (first | apply Kd.R_alloc | apply Kd.R_drewN | apply Kd.R_drew)); exact HO602.out)) k_ hk))
                      (case aO => exact (by (with_reducible repeat (first | apply Kd.R_alloc | apply Kd.R_drewN | apply Kd.R_drew)); exact Kd.R_mono HO595.out (fun _ hk => hk.2)))
                      (case aS => exact (below_size (by repeat (first | (with_reducible first | exact HB.out | apply below_alloc | apply pw_below_drewN | apply below_drew1) | exact HB.out))))
                      (case aL => have := LMc4.out; omega)
                      intro v598 w13 ho hb hg hat
                      rw [← Ny597.out] at ho
                      have n0_ := Aside0.mk (Kd.S_after (ok := (fun k_ => some k_ ≠ (v601 : Value).ownBlock)) (by (with_reducible repeat (first | apply Kd.S_alloc | apply Kd.S_drewN | apply Kd.S_drew)); exact Kd.S_mono HO_3.out (fun _ hk => ⟨hk.2, hk.1.2⟩)) hg hat)
                      have n1_ := Aside0.mk (Kd.R_after (ok := (fun _ => True)) (by (with_reducible repeat (first | apply Kd.R_alloc | apply Kd.R_drewN | apply Kd.R_drew)); exact HO602.out) hg hat)
                      have n2_ := Aside0.mk (hb)
                      have n3_ := Aside0.mk (ho)
                      clear HO_3
                      clear HO602
                      clear HB
                      clear HO595
                      have HO_3 := n0_
                      have HO602 := n1_
                      have HB := n2_
                      have HO599 := n3_
                      clear n0_ n1_ n2_ n3_
                      clear ho hb hg hat
                      refine hK.out _ _ ⟨((HB.out.cell (World.block_lt_of_cell? w _ hw596_0)).trans hw596_0), ((HB.out.cell (World.block_lt_of_cell? w _ hw596_1)).trans hw596_1), ((HB.out.cell (World.block_lt_of_cell? w _ hw603_0)).trans hw603_0), ((HB.out.cell (World.block_lt_of_cell? w _ hw603_1)).trans hw603_1)⟩ (fun hHeld => ?_)
                      clear hK K
                      refine norm_ (a' := ?_) ?_ ?_
                      rotate_left
                      · show Act.put _ (some 18) _ = _
                        simp only [Act.put, List.setIfInBounds_toArray, List.set_cons_zero, List.set_cons_succ, i64_w, i32_w]
                        rfl
                      exact norm_ (by simp only [putAll, Act.put, List.setIfInBounds_toArray, List.set_cons_zero, List.set_cons_succ]) (hCont (v594, v598, v601) _ ⟨hHeld, (by (with_reducible repeat (first | apply Kd.R_alloc | apply Kd.R_drewN | apply Kd.R_drew)); exact HO599.out), (by (with_reducible repeat (first | apply Kd.R_alloc | apply Kd.R_drewN | apply Kd.R_drew)); exact Kd.R_mono HO602.out (fun _ hk => hk.2)), (by (with_reducible repeat (first | apply Kd.S_alloc | apply Kd.S_drewN | apply Kd.S_drew)); exact Kd.S_mono HO_3.out (fun _ hk => ⟨hk.2, hk.1⟩)), (by repeat (first | (with_reducible first | exact HB.out | apply below_alloc | apply pw_below_drewN | apply below_drew1) | exact HB.out))⟩)
                  · skip
                    refine Kd.R_lit_step (Kd.int .i64) _ 3 ?hg (N := 19) ?hd (xs := ([] : List Int)) (inner := []) (ok := fun _ => True) (okp := fun _ => True) ?hr ?hp (fun _ hk => hk) trivial (Below.refl _ _) (Nat.le_refl _) (by simp) ?_; (case hd => rfl); (case hg => rfl); (case hr => first | (go_simp; done) | (go_simp; rfl)); (case hp => exact (Reps.none _ _))
                    intro v601 w9 ho10 hb hg_ hnew_
                    clear hg_ hnew_
                    (first | rw [← Ny600.out] at ho10 | (simp only [Int.reduceToNat] at ho10; rw [← Ny600.out] at ho10))
                    have n0_ := Aside0.mk (Kd.S_elder' (by (with_reducible repeat (first | apply Kd.S_alloc | apply Kd.S_drewN | apply Kd.S_drew)); exact HO_3.out) (Kd.R_base ho10) hb)
                    have n1_ := Aside0.mk (Kd.R_lower ho10 (below_size (by repeat (first | (with_reducible first | exact HB.out | apply below_alloc | apply pw_below_drewN | apply below_drew1) | exact HB.out))))
                    have n2_ := Aside0.mk (below_step (by repeat (first | (with_reducible first | exact HB.out | apply below_alloc | apply pw_below_drewN | apply below_drew1) | exact HB.out)) hb)
                    clear HO_3
                    clear HB
                    have HO_3 := n0_
                    have HO602 := n1_
                    have HB := n2_
                    clear n0_ n1_ n2_
                    clear hb ho10
                    refine hK.out _ _ ⟨((HB.out.cell (World.block_lt_of_cell? w _ hw596_0)).trans hw596_0), ((HB.out.cell (World.block_lt_of_cell? w _ hw596_1)).trans hw596_1), ((HB.out.cell (World.block_lt_of_cell? w _ hw603_0)).trans hw603_0), ((HB.out.cell (World.block_lt_of_cell? w _ hw603_1)).trans hw603_1)⟩ (fun hHeld => ?_)
                    clear hK K
                    refine norm_ (a' := ?_) ?_ ?_
                    rotate_left
                    · show Act.put _ (some 19) _ = _
                      simp only [Act.put, List.setIfInBounds_toArray, List.set_cons_zero, List.set_cons_succ, i64_w, i32_w]
                      rfl
                    refine one_ (i := 1) (N := some 12) #[true, true, true, true, true, true, true, false, true, true, true, true, true, true, false, false, false, false, false] rfl rfl (one_of HT_.out (by kernel_rfl)) (by decide) (fun K hK => ?_)
                    refine Kd.R_lit_step (Kd.int .i64) _ 3 ?hg (N := 12) ?hd (xs := ([] : List Int)) (inner := []) (ok := fun _ => True) (okp := fun _ => True) ?hr ?hp (fun _ hk => hk) trivial (Below.refl _ _) (Nat.le_refl _) (by simp) ?_; (case hd => rfl); (case hg => rfl); (case hr => first | (go_simp; done) | (go_simp; rfl)); (case hp => exact (Reps.none _ _))
                    intro v594 w11 ho12 hb hg_ hnew_
                    clear hg_ hnew_
                    (first | rw [← Ny593.out] at ho12 | (simp only [Int.reduceToNat] at ho12; rw [← Ny593.out] at ho12))
                    have n0_ := Aside0.mk (Kd.S_elder' (by (with_reducible repeat (first | apply Kd.S_alloc | apply Kd.S_drewN | apply Kd.S_drew)); exact HO_3.out) (Kd.R_base ho12) hb)
                    have n1_ := Aside0.mk (Kd.R_elder' (by (with_reducible repeat (first | apply Kd.R_alloc | apply Kd.R_drewN | apply Kd.R_drew)); exact HO602.out) (Kd.R_base ho12) hb)
                    have n2_ := Aside0.mk (Kd.R_lower (Kd.R_new' ho12 (Kd.R_lt (by (with_reducible repeat (first | apply Kd.R_alloc | apply Kd.R_drewN | apply Kd.R_drew)); exact HO602.out))) (below_size (by repeat (first | (with_reducible first | exact HB.out | apply below_alloc | apply pw_below_drewN | apply below_drew1) | exact HB.out))))
                    have n3_ := Aside0.mk (below_step (by repeat (first | (with_reducible first | exact HB.out | apply below_alloc | apply pw_below_drewN | apply below_drew1) | exact HB.out)) hb)
                    clear HO_3
                    clear HO602
                    clear HB
                    have HO_3 := n0_
                    have HO602 := n1_
                    have HO595 := n2_
                    have HB := n3_
                    clear n0_ n1_ n2_ n3_
                    clear hb ho12
                    refine hK.out _ _ ⟨((HB.out.cell (World.block_lt_of_cell? w _ hw596_0)).trans hw596_0), ((HB.out.cell (World.block_lt_of_cell? w _ hw596_1)).trans hw596_1), ((HB.out.cell (World.block_lt_of_cell? w _ hw603_0)).trans hw603_0), ((HB.out.cell (World.block_lt_of_cell? w _ hw603_1)).trans hw603_1)⟩ (fun hHeld => ?_)
                    clear hK K
                    refine norm_ (a' := ?_) ?_ ?_
                    rotate_left
                    · show Act.put _ (some 12) _ = _
                      simp only [Act.put, List.setIfInBounds_toArray, List.set_cons_zero, List.set_cons_succ, i64_w, i32_w]
                      rfl
                    refine one_ (i := 7) (N := some 18) #[true, true, true, true, true, true, true, true, true, true, true, true, true, true, false, false, false, false, false] rfl rfl (one_of HT_.out (by kernel_rfl)) (by decide) (fun K hK => ?_)
                    refine Kd.R_append_rows_step (Kd.int .i64) (w0 := w) w.heap.size (by rfl) (.tmp 12) (.tmp 17) 43 3 (.int .i64 0) 8 rfl Try.underlying43 info3 rfl (by decide) (by omega) v594 y593 ((rd_T53 l0 x4_1).f0) _ _ _ (fun k_ => some k_ ≠ (v601 : Value).ownBlock) (fun _ => False) rfl rfl ?aO ?aR (fun _ _ h => h) (fun _ h => h.elim) ?aF ?aB ?aS ?aL ?_
                    (case aR => repeat (first | exact (Kd.C_below HR596_0.out HB.out) | (with_reducible refine Kd.C_alloc ?_ _) | (with_reducible refine Kd.C_drewN ?_ _) | (with_reducible refine Kd.C_drew ?_)))
                    (case aB => exact (by repeat (first | (with_reducible first | exact HB.out | apply below_alloc | apply pw_below_drewN | apply below_drew1) | exact HB.out)))
                    (case aF => exact (fun k_ hk => Kd.fresh' (Kd.R_lt (by (with_reducible repeat (first | apply Kd.R_alloc | apply Kd.R_drewN | apply Kd.R_drew)); exact HO602.out)) k_ hk))
                    (case aO => exact (by (with_reducible repeat (first | apply Kd.R_alloc | apply Kd.R_drewN | apply Kd.R_drew)); exact Kd.R_mono HO595.out (fun _ hk => hk.2)))
                    (case aS => exact (below_size (by repeat (first | (with_reducible first | exact HB.out | apply below_alloc | apply pw_below_drewN | apply below_drew1) | exact HB.out))))
                    (case aL => have := LMc4.out; omega)
                    intro v598 w13 ho hb hg hat
                    rw [← Ny597.out] at ho
                    have n0_ := Aside0.mk (Kd.S_after (ok := (fun k_ => some k_ ≠ (v601 : Value).ownBlock)) (by (with_reducible repeat (first | apply Kd.S_alloc | apply Kd.S_drewN | apply Kd.S_drew)); exact Kd.S_mono HO_3.out (fun _ hk => ⟨hk.1.2, hk.2⟩)) hg hat)
                    have n1_ := Aside0.mk (Kd.R_after (ok := (fun _ => True)) (by (with_reducible repeat (first | apply Kd.R_alloc | apply Kd.R_drewN | apply Kd.R_drew)); exact HO602.out) hg hat)
                    have n2_ := Aside0.mk (hb)
                    have n3_ := Aside0.mk (ho)
                    clear HO_3
                    clear HO602
                    clear HB
                    clear HO595
                    have HO_3 := n0_
                    have HO602 := n1_
                    have HB := n2_
                    have HO599 := n3_
                    clear n0_ n1_ n2_ n3_
                    clear ho hb hg hat
                    refine hK.out _ _ ⟨((HB.out.cell (World.block_lt_of_cell? w _ hw596_0)).trans hw596_0), ((HB.out.cell (World.block_lt_of_cell? w _ hw596_1)).trans hw596_1), ((HB.out.cell (World.block_lt_of_cell? w _ hw603_0)).trans hw603_0), ((HB.out.cell (World.block_lt_of_cell? w _ hw603_1)).trans hw603_1)⟩ (fun hHeld => ?_)
                    clear hK K
                    refine norm_ (a' := ?_) ?_ ?_
                    rotate_left
                    · show Act.put _ (some 18) _ = _
                      simp only [Act.put, List.setIfInBounds_toArray, List.set_cons_zero, List.set_cons_succ, i64_w, i32_w]
                      rfl
                    exact norm_ (by simp only [putAll, Act.put, List.setIfInBounds_toArray, List.set_cons_zero, List.set_cons_succ]) (hCont (v594, v598, v601) _ ⟨hHeld, (by (with_reducible repeat (first | apply Kd.R_alloc | apply Kd.R_drewN | apply Kd.R_drew)); exact HO599.out), (by (with_reducible repeat (first | apply Kd.R_alloc | apply Kd.R_drewN | apply Kd.R_drew)); exact Kd.R_mono HO602.out (fun _ hk => hk.2)), (by (with_reducible repeat (first | apply Kd.S_alloc | apply Kd.S_drewN | apply Kd.S_drew)); exact Kd.S_mono HO_3.out (fun _ hk => ⟨hk.2, hk.1⟩)), (by repeat (first | (with_reducible first | exact HB.out | apply below_alloc | apply pw_below_drewN | apply below_drew1) | exact HB.out))⟩)
                rintro ⟨v594, v598, v601⟩ w14 ⟨hS_, h0_, h1_, h2_, h3_⟩
                have n0_ : Aside0 (Kd.R (Kd.int .i64) 3 w14 w.heap.size (fun k_ => some k_ ≠ (v601 : Value).ownBlock) v598 y597) := ⟨h0_⟩
                have n1_ : Aside0 (Kd.R (Kd.int .i64) 3 w14 w.heap.size (fun k_ => some k_ ≠ (v598 : Value).ownBlock) v601 y600) := ⟨h1_⟩
                have n2_ : Aside0 (Kd.S k53 53 w14 w.heap.size (fun k_ => some k_ ≠ (v598 : Value).ownBlock ∧ some k_ ≠ (v601 : Value).ownBlock) (.slice Ao7 x3_1.length co7) x3_1) := ⟨h2_⟩
                have n3_ : Aside0 (Below w.heap.size w w14) := ⟨h3_⟩
                clear HO_3
                clear HB
                clear h0_ h1_ h2_ h3_
                have HO599 := n0_
                have HO602 := n1_
                have HO_3 := n2_
                have HB := n3_
                clear n0_ n1_ n2_ n3_
                have hHeld : w14.cell? (ad596.add ((x4_1).toNat * 2)) = some (.slice A596_0 ((rd_T53 l0 x4_1).f0).length c596_0) ∧ w14.cell? ⟨(ad596.add ((x4_1).toNat * 2)).block, (ad596.add ((x4_1).toNat * 2)).off + 1, none⟩ = some (.slice A596_1 ((rd_T53 l0 x4_1).f1).length c596_1) ∧ w14.cell? (ad596.add ((x4_1).toNat * 2)) = some (.slice A596_0 ((rd_T53 l0 x4_1).f0).length c596_0) ∧ w14.cell? ⟨(ad596.add ((x4_1).toNat * 2)).block, (ad596.add ((x4_1).toNat * 2)).off + 1, none⟩ = some (.slice A596_1 ((rd_T53 l0 x4_1).f1).length c596_1) := hS_
                refine norm_ (a' := ?_) ?_ ?_
                rotate_left
                · simp only [putAll, Act.put, List.setIfInBounds_toArray, List.set_cons_zero, List.set_cons_succ]
                  rfl
                refine one_ (i := 14) (N := some 25) #[true, true, true, true, true, true, true, true, true, true, true, true, true, true, true, false, false, false, false] rfl rfl (one_of HT_.out (by kernel_rfl)) (by decide) (fun K hK => ?_)
                refine Kd.R_append_rows_step (Kd.int .i64) (w0 := w) w.heap.size (by rfl) (.tmp 19) (.tmp 24) 43 3 (.int .i64 0) 8 rfl Try.underlying43 info3 rfl (by decide) (by omega) v601 y600 ((rd_T53 l0 x4_1).f1) _ _ _ (fun k_ => some k_ ≠ (v598 : Value).ownBlock) (fun _ => False) rfl rfl ?aO ?aR (fun _ _ h => h) (fun _ h => h.elim) ?aF ?aB ?aS ?aL ?_
                (case aR => repeat (first | exact (Kd.C_below HR603_1.out HB.out) | (with_reducible refine Kd.C_alloc ?_ _) | (with_reducible refine Kd.C_drewN ?_ _) | (with_reducible refine Kd.C_drew ?_)))
                (case aB => exact (by repeat (first | (with_reducible first | exact HB.out | apply below_alloc | apply pw_below_drewN | apply below_drew1) | exact HB.out)))
                (case aF => exact (fun k_ hk => Kd.fresh' (Kd.R_lt (by (with_reducible repeat (first | apply Kd.R_alloc | apply Kd.R_drewN | apply Kd.R_drew)); exact HO599.out)) k_ hk))
                (case aO => exact (by (with_reducible repeat (first | apply Kd.R_alloc | apply Kd.R_drewN | apply Kd.R_drew)); exact HO602.out))
                (case aS => exact (below_size (by repeat (first | (with_reducible first | exact HB.out | apply below_alloc | apply pw_below_drewN | apply below_drew1) | exact HB.out))))
                (case aL => have := LMc5.out; omega)
                intro v605 w15 ho hb hg hat
                rw [← Ny604.out] at ho
                have n0_ := Aside0.mk (Kd.S_after (ok := (fun k_ => some k_ ≠ (v598 : Value).ownBlock)) (by (with_reducible repeat (first | apply Kd.S_alloc | apply Kd.S_drewN | apply Kd.S_drew)); exact HO_3.out) hg hat)
                have n1_ := Aside0.mk (Kd.R_after (ok := (fun _ => True)) (by (with_reducible repeat (first | apply Kd.R_alloc | apply Kd.R_drewN | apply Kd.R_drew)); exact Kd.R_mono HO599.out (fun _ hk => ⟨trivial, hk⟩)) hg hat)
                have n2_ := Aside0.mk (hb)
                have n3_ := Aside0.mk (ho)
                clear HO_3
                clear HO599
                clear HB
                clear HO602
                have HO_3 := n0_
                have HO599 := n1_
                have HB := n2_
                have HO606 := n3_
                clear n0_ n1_ n2_ n3_
                clear ho hb hg hat
                obtain ⟨Ao16, co16, eo16⟩ := Kd.R_slice HO606.out
                (first | subst eo16 | (injection eo16 with f1_ f2_ f3_; have f4_ := f1_.symm; have f5_ := f3_.symm; clear f1_ f2_ f3_; subst f4_; subst f5_))
                obtain ⟨Ao17, co17, eo17⟩ := Kd.R_slice HO599.out
                (first | subst eo17 | (injection eo17 with f1_ f2_ f3_; have f4_ := f1_.symm; have f5_ := f3_.symm; clear f1_ f2_ f3_; subst f4_; subst f5_))
                refine hK.out _ _ ⟨((HB.out.cell (World.block_lt_of_cell? w _ hw596_0)).trans hw596_0), ((HB.out.cell (World.block_lt_of_cell? w _ hw596_1)).trans hw596_1), ((HB.out.cell (World.block_lt_of_cell? w _ hw603_0)).trans hw603_0), ((HB.out.cell (World.block_lt_of_cell? w _ hw603_1)).trans hw603_1)⟩ (fun hHeld => ?_)
                clear hK K
                refine norm_ (a' := ?_) ?_ ?_
                rotate_left
                · show Act.put _ (some 25) _ = _
                  simp only [Act.put, List.setIfInBounds_toArray, List.set_cons_zero, List.set_cons_succ, i64_w, i32_w]
                  rfl
                refine pure_ (i := 15) (N := some 26) (v := ?_) (a' := ?_) #[true, true, true, true, true, true, true, true, true, true, true, true, true, true, true, true, false, false, false] rfl rfl (any_of HT_.out (by kernel_rfl)) (fun _ _ _ h => h) (Or.inl ⟨by rfl, ?_⟩) ?_ ?_
                rotate_left
                · intro w'
                  go_simp
                  with_reducible rfl
                rotate_left
                · simp only [Act.put, List.setIfInBounds_toArray, List.set_cons_zero, List.set_cons_succ, i64_w, i32_w]
                  rfl
                refine one_ (i := 16) (N := some 27) #[true, true, true, true, true, true, true, true, true, true, true, true, true, true, true, true, true, false, false] rfl rfl (one_of HT_.out (by kernel_rfl)) (by decide) (fun K hK => ?_)
                refine value_ (w1 := ?_) (v := ?_) (by rfl) rfl ?_ ?_
                rotate_left 2
                · go_simp
                  constructor
                  · rfl
                  · rfl
                refine hK.out _ _ ⟨(World.cell?_alloc_lt _ _ _ (World.block_lt_of_cell? _ _ (((HB.out.cell (World.block_lt_of_cell? w _ hw596_0)).trans hw596_0)))).trans (((HB.out.cell (World.block_lt_of_cell? w _ hw596_0)).trans hw596_0)), (World.cell?_alloc_lt _ _ _ (World.block_lt_of_cell? _ _ (((HB.out.cell (World.block_lt_of_cell? w _ hw596_1)).trans hw596_1)))).trans (((HB.out.cell (World.block_lt_of_cell? w _ hw596_1)).trans hw596_1)), (World.cell?_alloc_lt _ _ _ (World.block_lt_of_cell? _ _ (((HB.out.cell (World.block_lt_of_cell? w _ hw603_0)).trans hw603_0)))).trans (((HB.out.cell (World.block_lt_of_cell? w _ hw603_0)).trans hw603_0)), (World.cell?_alloc_lt _ _ _ (World.block_lt_of_cell? _ _ (((HB.out.cell (World.block_lt_of_cell? w _ hw603_1)).trans hw603_1)))).trans (((HB.out.cell (World.block_lt_of_cell? w _ hw603_1)).trans hw603_1))⟩ (fun hHeld => ?_)
                clear hK K
                refine norm_ (a' := ?_) ?_ ?_
                rotate_left
                · show Act.put _ (some 27) _ = _
                  simp only [Act.put, List.setIfInBounds_toArray, List.set_cons_zero, List.set_cons_succ, i64_w, i32_w]
                  rfl
                refine one_ (i := 17) (N := some 28) #[true, true, true, true, true, true, true, true, true, true, true, true, true, true, true, true, true, true, false] rfl rfl (one_of HT_.out (by kernel_rfl)) (by decide) (fun K hK => ?_)
                refine Kd.S_append_step k53 (w0 := w) w.heap.size (by rfl) (.tmp 11) (.tmp 27) 22 53 (.agg #[(.slice none 0 0), (.slice none 0 0)]) 48 rfl Try.underlying22 info53 rfl (by decide) (by omega) (.slice Ao7 x3_1.length co7) x3_1 (⟨y597, y604⟩ : S53) [.slice Ao17 y597.length co17, .slice Ao16 y604.length co16] (fun _ => True) (fun k_ => some k_ = (.slice Ao17 y597.length co17 : Value).ownBlock ∨ some k_ = (.slice Ao16 y604.length co16 : Value).ownBlock) rfl rfl ?aP (fun k_ hk_ => hk_.elim (fun h_ => ((Kd.R_mono (ok' := fun k_ => ((fun _ => True)) k_ ∧ some k_ ≠ (.slice Ao7 x3_1.length co7 : Value).ownBlock) (Kd.R_apart' (HO599.out) (Kd.S_typed HO_3.out) (by decide)) (fun k_ hk => ⟨trivial, hk.2⟩))).1 k_ h_.symm) (fun h_ => ((Kd.R_mono (ok' := fun k_ => ((fun _ => True)) k_ ∧ some k_ ≠ (.slice Ao7 x3_1.length co7 : Value).ownBlock) (Kd.R_apart' (HO606.out) (Kd.S_typed HO_3.out) (by decide)) (fun k_ hk => ⟨trivial, hk.2⟩))).1 k_ h_.symm)) ?aF ?aO ?aB ?aS ?aL ?_
                (case aP => exact k53_mkM _ _ _ (⟨y597, y604⟩ : S53) (Kd.R_mono (Kd.R_tight rfl (Kd.R_mono (ok' := fun k_ => ((fun _ => True)) k_ ∧ some k_ ≠ (.slice Ao7 x3_1.length co7 : Value).ownBlock) (Kd.R_apart' (HO599.out) (Kd.S_typed HO_3.out) (by decide)) (fun k_ hk => ⟨trivial, hk.2⟩))) (fun _ h_ => Or.inl h_)) (Kd.R_mono (Kd.R_tight rfl (Kd.R_mono (ok' := fun k_ => ((fun _ => True)) k_ ∧ some k_ ≠ (.slice Ao7 x3_1.length co7 : Value).ownBlock) (Kd.R_apart' (HO606.out) (Kd.S_typed HO_3.out) (by decide)) (fun k_ hk => ⟨trivial, hk.2⟩))) (fun _ h_ => Or.inr (h_))))
                (case aB => exact (by repeat (first | (with_reducible first | exact HB.out | apply below_alloc | apply pw_below_drewN | apply below_drew1) | exact HB.out)))
                (case aF => exact (fun _ _ => trivial))
                (case aO => exact (by (with_reducible repeat (first | apply Kd.S_alloc | apply Kd.S_drewN | apply Kd.S_drew)); exact Kd.S_mono HO_3.out (fun k_ hk => ⟨trivial, fun e_ => e_.elim (fun h_ => hk.1 h_) (fun h_ => hk.2 h_)⟩)))
                (case aS => exact (below_size (by repeat (first | (with_reducible first | exact HB.out | apply below_alloc | apply pw_below_drewN | apply below_drew1) | exact HB.out))))
                (case aL => have := LMc6.out; omega)
                intro v608 w18 ho hb hg hat
                rw [← Ny607.out] at ho
                have n0_ := Aside0.mk (hb)
                have n1_ := Aside0.mk (ho)
                clear HB
                clear HO_3
                clear HO599
                clear HO606
                have HB := n0_
                have HO609 := n1_
                clear n0_ n1_
                clear ho hb hg hat
                refine hK.out _ _ ⟨((HB.out.cell (World.block_lt_of_cell? w _ hw596_0)).trans hw596_0), ((HB.out.cell (World.block_lt_of_cell? w _ hw596_1)).trans hw596_1), ((HB.out.cell (World.block_lt_of_cell? w _ hw603_0)).trans hw603_0), ((HB.out.cell (World.block_lt_of_cell? w _ hw603_1)).trans hw603_1)⟩ (fun hHeld => ?_)
                clear hK K
                refine norm_ (a' := ?_) ?_ ?_
                rotate_left
                · show Act.put _ (some 28) _ = _
                  simp only [Act.put, List.setIfInBounds_toArray, List.set_cons_zero, List.set_cons_succ, i64_w, i32_w]
                  rfl
                refine pure_ (i := 18) (N := some 3) (v := ?_) (a' := ?_) #[true, true, true, true, true, true, true, true, true, true, true, true, true, true, true, true, true, true, true] rfl rfl (any_of HT_.out (by kernel_rfl)) (fun _ _ _ h => h) (Or.inl ⟨by rfl, ?_⟩) ?_ ?_
                rotate_left
                · intro w'
                  go_simp
                  with_reducible rfl
                rotate_left
                · simp only [Act.put, List.setIfInBounds_toArray, List.set_cons_zero, List.set_cons_succ, i64_w, i32_w]
                  rfl
                refine done_ (done_of HT_.out (by kernel_rfl)) ?_
                try go_wp2
                go_roundg k1
                case measure => have := HK1.out; omega
                case rel => exact ⟨(y607), (wrap64 (x4_1 + 1)), (by first | rfl | (simp; done) | (simp [*]; done)), H', ⟨by have := HK1.out; omega⟩, ⟨by (with_reducible repeat (first | apply Kd.S_alloc | apply Kd.S_drewN | apply Kd.S_drew)); exact HO609.out⟩, ⟨by repeat (first | (with_reducible first | exact HB.out | apply below_alloc | apply pw_below_drewN | apply below_drew1) | exact HB.out)⟩⟩
              · rw [if_neg c6] at H
                exact absurd H (by simp)
            · rw [if_neg c5] at H
              exact absurd H (by simp)
          · rw [if_neg c4] at H
            exact absurd H (by simp)
        · rw [if_neg c3] at H
          exact absurd H (by simp)
      · rw [if_neg c2] at H
        have c2b0 : decide (x4_1 < (l0.length : Int)) = false := decide_eq_false c2
        clear c2
        obtain rfl := Option.some.inj H
        go_wp2
        go_ret
        exact ⟨_, by first | rfl | (simp [errW_none, errW_some] <;> rfl) | (simp [*, errW_none, errW_some] <;> rfl), by (with_reducible repeat (first | apply Kd.S_alloc | apply Kd.S_drewN | apply Kd.S_drew)); exact HO_3.out, by repeat (first | (with_reducible first | exact HB.out | apply below_alloc | apply pw_below_drewN | apply below_drew1) | exact HB.out)⟩

end Go.Proofs.Ytdbeochifofdoaa.X
end

section
-- Written by a program of this session (wip/hook.py, which runs the kit's print.py with contracts proved by hand). Not trusted: Lean checks it.
namespace Go.Proofs.Ytdbeochifofdoaa.X
open Go.RowKit Go.Proofs.YtdbeochifofdoaaW.PrintWords Go.Proofs.YtdbeochifofdoaaW.PrintLast Go.Proofs.YtdbeochifofdoaaW.PrintMore
attribute [local go_sem] max2_int min2_int max_two min_two max_three min_three max_four min_four   -- for this text's walks alone
set_option linter.unusedVariables false
set_option linter.unusedSimpArgs false

/-! ### verditerref06_weighing: function 106 -/
def verditerref06_weighing.f (k : Nat) (a0 : Int) (l1 : List (S53)) (a2 : Int) : Option (Int) := (verditerref06_Validate.f k a0 l1).bind fun t610 => (if t610 = 0 then ((verditerref06_within.f a2 0 (wrap64 ((l1.length : Int) - 1))).bind fun t611 => (if t611 = true then (some 0) else (some 4))) else (some t610))
set_option maxHeartbeats 8000000 in
set_option maxRecDepth 100000 in
theorem verditerref06_weighing.calls (k : Nat) (a0 : Int) (A1 : Option Addr) (c1 : Nat) (l1 : List (S53)) (a2 : Int) (r : Int) (w : World) (hr1 : Kd.C k53 w A1 l1.length l1) (hc1 : l1.length ≤ c1) (h : verditerref06_weighing.f k a0 l1 a2 = some r) :
    Calls Try.prog 106 #[.int .i64 a0, .slice A1 l1.length c1, .int .i64 a2] w fun e w' => e = .returned (.int .i64 r) ∧ Drawn0 w w' := by
  have HR1 := Aside0.mk hr1
  have HC1 := Aside0.mk hc1
  clear hr1 hc1
  have H : ((verditerref06_Validate.f k a0 l1).bind fun t610 => (if t610 = 0 then ((verditerref06_within.f a2 0 (wrap64 ((l1.length : Int) - 1))).bind fun t611 => (if t611 = true then (some 0) else (some 4))) else (some t610))) = some r := h
  clear h
  replace H := Option.bind_eq_some_iff.mp H
  obtain ⟨t610, A40, H⟩ := H
  replace H : (if t610 = 0 then ((verditerref06_within.f a2 0 (wrap64 ((l1.length : Int) - 1))).bind fun t611 => (if t611 = true then (some 0) else (some 4))) else (some t610)) = some r := H
  have A4 := Aside0.mk A40
  clear A40
  by_cases c5 : t610 = 0
  · rw [if_pos c5] at H
    have c5b0 : (t610 == 0) = true := beq_iff_eq.mpr c5
    have c5b1 : (t610 != 0) = false := bne_eq_false_iff_eq.mpr c5
    clear c5
    replace H := Option.bind_eq_some_iff.mp H
    obtain ⟨t611, A60, H⟩ := H
    replace H : (if t611 = true then (some 0) else (some 4)) = some r := H
    have A6 := Aside0.mk A60
    clear A60
    by_cases c7 : t611 = true
    · subst c7
      have H1 : (some 0) = some r := by rw [if_pos rfl] at H; exact H
      clear H
      have H := H1
      clear H1
      obtain rfl := Option.some.inj H
      go_enter Try.func106, Try.ntmps106
      go_wp2_with (first | ((with_reducible refine gate_callee (f := 59) rfl ?_); refine goesL_ (some 10) rfl rfl Try.func59 (by kernel_rfl) rfl #[.int .i64 a0, .slice A1 l1.length c1] rfl (by (try simp only [List.map_toArray, List.map_cons, List.map_nil]); first | done | rfl | (simp only [List.length_drop, List.length_take]; rfl)) ?_; (with_reducible refine (verditerref06_Validate.calls k a0 _ _ l1 t610 _ ?side1 ?side2 A4.out).mono ?_); (case side1 => repeat (first | exact HR1.out | (with_reducible refine Kd.C_alloc ?_ _) | (with_reducible refine Kd.C_drewN ?_ _) | (with_reducible refine Kd.C_drew ?_))); (case side2 => exact HC1.out); rintro e w' ⟨rfl, ⟨nd, rfl⟩⟩; refine ⟨_, rfl, ?_⟩) | ((with_reducible refine gate_callee (f := 82) rfl ?_); refine goesL_ (some 18) rfl rfl Try.func82 (by kernel_rfl) rfl #[.int .i64 a2, .int .i64 0, .int .i64 (wrap64 ((l1.length : Int) - 1))] rfl (by (try simp only [List.map_toArray, List.map_cons, List.map_nil]); first | done | rfl | (simp only [List.length_drop, List.length_take]; rfl)) ?_; (with_reducible refine (verditerref06_within.calls a2 0 (wrap64 ((l1.length : Int) - 1)) true _ A6.out).mono ?_); rintro e w' ⟨rfl, ⟨nd, rfl⟩⟩; refine ⟨_, rfl, ?_⟩))
      go_ret
      exact ⟨by first | rfl | (simp; done) | (simp [*]; done), by repeat (first | exact Drawn0.refl _ | apply Drawn0.step)⟩
    · replace c7 := Bool.eq_false_iff.mpr c7
      subst c7
      have H1 : (some 4) = some r := by rw [if_neg (show ¬ (false = true) by decide)] at H; exact H
      clear H
      have H := H1
      clear H1
      obtain rfl := Option.some.inj H
      go_enter Try.func106, Try.ntmps106
      go_wp2_with (first | ((with_reducible refine gate_callee (f := 59) rfl ?_); refine goesL_ (some 10) rfl rfl Try.func59 (by kernel_rfl) rfl #[.int .i64 a0, .slice A1 l1.length c1] rfl (by (try simp only [List.map_toArray, List.map_cons, List.map_nil]); first | done | rfl | (simp only [List.length_drop, List.length_take]; rfl)) ?_; (with_reducible refine (verditerref06_Validate.calls k a0 _ _ l1 t610 _ ?side1 ?side2 A4.out).mono ?_); (case side1 => repeat (first | exact HR1.out | (with_reducible refine Kd.C_alloc ?_ _) | (with_reducible refine Kd.C_drewN ?_ _) | (with_reducible refine Kd.C_drew ?_))); (case side2 => exact HC1.out); rintro e w' ⟨rfl, ⟨nd, rfl⟩⟩; refine ⟨_, rfl, ?_⟩) | ((with_reducible refine gate_callee (f := 82) rfl ?_); refine goesL_ (some 18) rfl rfl Try.func82 (by kernel_rfl) rfl #[.int .i64 a2, .int .i64 0, .int .i64 (wrap64 ((l1.length : Int) - 1))] rfl (by (try simp only [List.map_toArray, List.map_cons, List.map_nil]); first | done | rfl | (simp only [List.length_drop, List.length_take]; rfl)) ?_; (with_reducible refine (verditerref06_within.calls a2 0 (wrap64 ((l1.length : Int) - 1)) false _ A6.out).mono ?_); rintro e w' ⟨rfl, ⟨nd, rfl⟩⟩; refine ⟨_, rfl, ?_⟩))
      go_ret
      exact ⟨by first | rfl | (simp; done) | (simp [*]; done), by repeat (first | exact Drawn0.refl _ | apply Drawn0.step)⟩
  · rw [if_neg c5] at H
    have c5b0 : (t610 == 0) = false := beq_eq_false_iff_ne.mpr c5
    have c5b1 : (t610 != 0) = true := bne_iff_ne.mpr c5
    obtain rfl := Option.some.inj H
    go_enter Try.func106, Try.ntmps106
    go_wp2_with (first | ((with_reducible refine gate_callee (f := 59) rfl ?_); refine goesL_ (some 10) rfl rfl Try.func59 (by kernel_rfl) rfl #[.int .i64 a0, .slice A1 l1.length c1] rfl (by (try simp only [List.map_toArray, List.map_cons, List.map_nil]); first | done | rfl | (simp only [List.length_drop, List.length_take]; rfl)) ?_; (with_reducible refine (verditerref06_Validate.calls k a0 _ _ l1 t610 _ ?side1 ?side2 A4.out).mono ?_); (case side1 => repeat (first | exact HR1.out | (with_reducible refine Kd.C_alloc ?_ _) | (with_reducible refine Kd.C_drewN ?_ _) | (with_reducible refine Kd.C_drew ?_))); (case side2 => exact HC1.out); rintro e w' ⟨rfl, ⟨nd, rfl⟩⟩; refine ⟨_, rfl, ?_⟩))
    go_ret
    exact ⟨by first | rfl | (simp; done) | (simp [*]; done), by repeat (first | exact Drawn0.refl _ | apply Drawn0.step)⟩

end Go.Proofs.Ytdbeochifofdoaa.X
end

section
-- Written by a program of this session (wip/hook.py, which runs the kit's print.py with contracts proved by hand). Not trusted: Lean checks it.
namespace Go.Proofs.Ytdbeochifofdoaa.X
open Go.RowKit Go.Proofs.YtdbeochifofdoaaW.PrintWords Go.Proofs.YtdbeochifofdoaaW.PrintLast Go.Proofs.YtdbeochifofdoaaW.PrintMore
attribute [local go_sem] max2_int min2_int max_two min_two max_three min_three max_four min_four   -- for this text's walks alone
set_option linter.unusedVariables false
set_option linter.unusedSimpArgs false

/-! ### verditerref06_Mirror: function 71 -/
def verditerref06_Mirror.f (k : Nat) (a0 : Int) (l1 : List (S53)) (a2 : Int) : Option ((List (S53)) × Int) := (verditerref06_weighing.f k a0 l1 a2).bind fun t612 => (if t612 = 0 then ((verditerref06_Copy.f k l1).bind fun t613 => (if 0 ≤ a2 then (if a2 < (t613.length : Int) then ((some (t613.set (a2 : Int).toNat (⟨(rd_T53 t613 a2).f1, (rd_T53 t613 a2).f1⟩ : S53) : List (S53))).bind fun y618 => (some ((y618.set (a2 : Int).toNat (⟨(rd_T53 y618 a2).f0, (rd_T53 t613 a2).f0⟩ : S53)), 0))) else (none)) else (none))) else (some (([] : List (S53)), t612)))
set_option maxHeartbeats 8000000 in
set_option maxRecDepth 100000 in
theorem verditerref06_Mirror.calls (k : Nat) (a0 : Int) (A1 : Option Addr) (c1 : Nat) (l1 : List (S53)) (a2 : Int) (r1 : List (S53)) (r2 : Int) (w : World) (hr1 : Kd.C k53 w A1 l1.length l1) (hc1 : l1.length ≤ c1) (h : verditerref06_Mirror.f k a0 l1 a2 = some (r1, r2)) :
    Calls Try.prog 71 #[.int .i64 a0, .slice A1 l1.length c1, .int .i64 a2] w fun e w' => ∃ v0_ : Value, e = .returned (.tuple #[v0_, .int .i64 r2]) ∧ Kd.N k53 53 w' w.heap.size (fun k_ => (w.heap.size ≤ k_)) v0_ r1 ∧ Below w.heap.size w w' := by
  have HR1 := Aside0.mk hr1
  have HC1 := Aside0.mk hc1
  clear hr1 hc1
  have HB := Aside0.mk (Below.refl w.heap.size w)
  have H : ((verditerref06_weighing.f k a0 l1 a2).bind fun t612 => (if t612 = 0 then ((verditerref06_Copy.f k l1).bind fun t613 => (if 0 ≤ a2 then (if a2 < (t613.length : Int) then ((some (t613.set (a2 : Int).toNat (⟨(rd_T53 t613 a2).f1, (rd_T53 t613 a2).f1⟩ : S53) : List (S53))).bind fun y618 => (some ((y618.set (a2 : Int).toNat (⟨(rd_T53 y618 a2).f0, (rd_T53 t613 a2).f0⟩ : S53)), 0))) else (none)) else (none))) else (some (([] : List (S53)), t612)))) = some (r1, r2) := h
  clear h
  replace H := Option.bind_eq_some_iff.mp H
  obtain ⟨t612, A40, H⟩ := H
  replace H : (if t612 = 0 then ((verditerref06_Copy.f k l1).bind fun t613 => (if 0 ≤ a2 then (if a2 < (t613.length : Int) then ((some (t613.set (a2 : Int).toNat (⟨(rd_T53 t613 a2).f1, (rd_T53 t613 a2).f1⟩ : S53) : List (S53))).bind fun y618 => (some ((y618.set (a2 : Int).toNat (⟨(rd_T53 y618 a2).f0, (rd_T53 t613 a2).f0⟩ : S53)), 0))) else (none)) else (none))) else (some (([] : List (S53)), t612))) = some (r1, r2) := H
  have A4 := Aside0.mk A40
  clear A40
  by_cases c5 : t612 = 0
  · rw [if_pos c5] at H
    have c5b0 : (t612 == 0) = true := beq_iff_eq.mpr c5
    have c5b1 : (t612 != 0) = false := bne_eq_false_iff_eq.mpr c5
    clear c5
    replace H := Option.bind_eq_some_iff.mp H
    obtain ⟨t613, A60, H⟩ := H
    replace H : (if 0 ≤ a2 then (if a2 < (t613.length : Int) then ((some (t613.set (a2 : Int).toNat (⟨(rd_T53 t613 a2).f1, (rd_T53 t613 a2).f1⟩ : S53) : List (S53))).bind fun y618 => (some ((y618.set (a2 : Int).toNat (⟨(rd_T53 y618 a2).f0, (rd_T53 t613 a2).f0⟩ : S53)), 0))) else (none)) else (none)) = some (r1, r2) := H
    have A6 := Aside0.mk A60
    clear A60
    by_cases c7 : 0 ≤ a2
    · rw [if_pos c7] at H
      have c7b0 : decide (0 ≤ a2) = true := decide_eq_true c7
      clear c7
      by_cases c8 : a2 < (t613.length : Int)
      · rw [if_pos c8] at H
        have c8b0 : decide (a2 < (t613.length : Int)) = true := decide_eq_true c8
        clear c8
        obtain ⟨y618, hy618⟩ : ∃ y_ : List (S53), y_ = (t613.set (a2 : Int).toNat (⟨(rd_T53 t613 a2).f1, (rd_T53 t613 a2).f1⟩ : S53)) := ⟨_, rfl⟩
        replace H : (some ((y618.set (a2 : Int).toNat (⟨(rd_T53 y618 a2).f0, (rd_T53 t613 a2).f0⟩ : S53)), 0)) = some (r1, r2) := by first | (rw [hy618]; with_reducible exact H) | (have H2_ := (Option.bind_some _ _).symm.trans H; rw [hy618]; with_reducible exact H2_) | (have H2_ := (Option.bind_some _ _).symm.trans H; with_reducible exact H2_) | with_reducible exact H | (rw [hy618]; exact H) | exact H
        have Ny618 := Aside0.mk hy618
        clear hy618
        obtain ⟨y619, hy619⟩ : ∃ y_ : List (S53), y_ = (y618.set (a2 : Int).toNat (⟨(rd_T53 y618 a2).f0, (rd_T53 t613 a2).f0⟩ : S53)) := ⟨_, rfl⟩
        replace H : (some (y619, 0)) = some (r1, r2) := by first | (rw [hy619]; with_reducible exact H) | (have H2_ := (Option.bind_some _ _).symm.trans H; rw [hy619]; with_reducible exact H2_) | (have H2_ := (Option.bind_some _ _).symm.trans H; with_reducible exact H2_) | with_reducible exact H | (rw [hy619]; exact H) | exact H
        have Ny619 := Aside0.mk hy619
        clear hy619
        simp only [Option.some.injEq, Prod.mk.injEq] at H
        obtain ⟨rfl, rfl⟩ := H
        go_enter Try.func71, Try.ntmps71
        go_wp2_with (first | ((with_reducible refine gate_callee (f := 106) rfl ?_); refine goesL_ (some 14) rfl rfl Try.func106 (by kernel_rfl) rfl #[.int .i64 a0, .slice A1 l1.length c1, .int .i64 a2] rfl (by (try simp only [List.map_toArray, List.map_cons, List.map_nil]); first | done | rfl | (simp only [List.length_drop, List.length_take]; rfl)) ?_; (with_reducible refine (verditerref06_weighing.calls k a0 _ _ l1 a2 t612 _ ?side1 ?side2 A4.out).mono ?_); (case side1 => repeat (first | exact HR1.out | (with_reducible refine Kd.C_alloc ?_ _) | (with_reducible refine Kd.C_drewN ?_ _) | (with_reducible refine Kd.C_drew ?_))); (case side2 => exact HC1.out); rintro e w' ⟨rfl, ⟨nd, rfl⟩⟩; refine ⟨_, rfl, ?_⟩) | ((with_reducible refine gate_callee (f := 70) rfl ?_); refine goesL_ (some 19) rfl rfl Try.func70 (by kernel_rfl) rfl #[.slice A1 l1.length c1] rfl (by (try simp only [List.map_toArray, List.map_cons, List.map_nil]); first | done | rfl | (simp only [List.length_drop, List.length_take]; rfl)) ?_; (with_reducible refine (verditerref06_Copy.calls k _ _ l1 t613 _ ?side1 ?side2 A6.out).mono ?_); (case side1 => repeat (first | exact HR1.out | (with_reducible refine Kd.C_alloc ?_ _) | (with_reducible refine Kd.C_drewN ?_ _) | (with_reducible refine Kd.C_drew ?_))); (case side2 => exact HC1.out); rintro e w11 ⟨v614, rfl, ho0, hb⟩; refine ⟨_, rfl, ?_⟩; have n0_ := Aside0.mk (Kd.N_lower (Kd.N_mono (ok' := fun k_ => (w.heap.size ≤ k_)) (Kd.S_N (Kd.S_bound ho0)) (fun k_ hk_ => (Nat.le_trans (below_size (by repeat (first | (with_reducible first | exact HB.out | apply below_alloc | apply pw_below_drewN | apply below_drew1) | exact HB.out))) hk_.2.1))) (below_size (by repeat (first | (with_reducible first | exact HB.out | apply below_alloc | apply pw_below_drewN | apply below_drew1) | exact HB.out)))); have n1_ := Aside0.mk (below_step (by repeat (first | (with_reducible first | exact HB.out | apply below_alloc | apply pw_below_drewN | apply below_drew1) | exact HB.out)) hb); clear HB; have HO615 := n0_; have HB := n1_; clear n0_ n1_; (try clear hb); (try clear hb2); (try clear hk); (try clear hi); (try clear ho0); obtain ⟨Ao12, co12, eo12⟩ := Kd.N_slice HO615.out; subst eo12; have p616 : 0 ≤ (a2 : Int) := of_decide_eq_true (by first | (with_reducible assumption) | assumption); have q616 : a2 < (t613.length : Int) := of_decide_eq_true (by first | (with_reducible assumption) | assumption); obtain ⟨ad616, A616_0, c616_0, A616_1, c616_1, e616, hx616_0, hx616_1, hl616_0, hi616_0, hl616_1, hi616_1⟩ := at_T53 (Kd.N_reads' HO615.out).2.2 a2 p616 q616; cases e616; obtain ⟨ce616, hce616, hMe616, hcc616⟩ := Kd.N_get HO615.out z53 a2 p616 (by first | exact q616 | exact of_decide_eq_true (by first | (with_reducible assumption) | assumption) | (have e_ := (Kd.N_reads' HO615.out).1; omega)); obtain ⟨ua616_0, uc616_0, ua616_1, uc616_1, rfl, ul616_0, ge616_0, ul616_1, ge616_1⟩ := k53_openF hMe616; have hv616_0 := hcc616 0 _ rfl; rw [Nat.add_zero] at hv616_0; replace hv616_0 := Option.some.inj (hv616_0.symm.trans hx616_0); injection hv616_0 with hva_ hvn_ hvc_; rw [hva_] at ge616_0; rw [hvc_] at ul616_0; have HL616_0 := Aside0.mk (show Kd.V (Kd.int .i64) 3 _ w.heap.size _ _ ((rd_T53 t613 a2).f0) from Kd.V_mk ul616_0 ge616_0); clear hva_ hvn_ hvc_ ge616_0 ul616_0; have hv616_1 := hcc616 1 _ rfl; rw [add_field _ _ 1 (by omega)] at hv616_1; replace hv616_1 := Option.some.inj (hv616_1.symm.trans hx616_1); injection hv616_1 with hva_ hvn_ hvc_; rw [hva_] at ge616_1; rw [hvc_] at ul616_1; have HL616_1 := Aside0.mk (show Kd.V (Kd.int .i64) 3 _ w.heap.size _ _ ((rd_T53 t613 a2).f1) from Kd.V_mk ul616_1 ge616_1); clear hva_ hvn_ hvc_ ge616_1 ul616_1; clear hcc616 hce616; have HR616_0 := Aside0.mk hi616_0; have HC616_0 := Aside0.mk hl616_0; clear hi616_0 hl616_0; have HR616_1 := Aside0.mk hi616_1; have HC616_1 := Aside0.mk hl616_1; clear hi616_1 hl616_1; replace p616 := eq_true p616; replace q616 := eq_true q616; have p617 : 0 ≤ (a2 : Int) := of_decide_eq_true (by first | (with_reducible assumption) | assumption); have q617 : a2 < (t613.length : Int) := of_decide_eq_true (by first | (with_reducible assumption) | assumption); obtain ⟨ad617, A617_0, c617_0, A617_1, c617_1, e617, hx617_0, hx617_1, hl617_0, hi617_0, hl617_1, hi617_1⟩ := at_T53 (Kd.N_reads' HO615.out).2.2 a2 p617 q617; obtain rfl : ad616 = ad617 := (by injection e617); obtain ⟨ce617, hce617, hMe617, hcc617⟩ := Kd.N_get HO615.out z53 a2 p617 (by first | exact q617 | exact of_decide_eq_true (by first | (with_reducible assumption) | assumption) | (have e_ := (Kd.N_reads' HO615.out).1; omega)); obtain ⟨ua617_0, uc617_0, ua617_1, uc617_1, rfl, ul617_0, ge617_0, ul617_1, ge617_1⟩ := k53_openF hMe617; have hv617_0 := hcc617 0 _ rfl; rw [Nat.add_zero] at hv617_0; replace hv617_0 := Option.some.inj (hv617_0.symm.trans hx617_0); injection hv617_0 with hva_ hvn_ hvc_; rw [hva_] at ge617_0; rw [hvc_] at ul617_0; have HL617_0 := Aside0.mk (show Kd.V (Kd.int .i64) 3 _ w.heap.size _ _ ((rd_T53 t613 a2).f0) from Kd.V_mk ul617_0 ge617_0); clear hva_ hvn_ hvc_ ge617_0 ul617_0; have hv617_1 := hcc617 1 _ rfl; rw [add_field _ _ 1 (by omega)] at hv617_1; replace hv617_1 := Option.some.inj (hv617_1.symm.trans hx617_1); injection hv617_1 with hva_ hvn_ hvc_; rw [hva_] at ge617_1; rw [hvc_] at ul617_1; have HL617_1 := Aside0.mk (show Kd.V (Kd.int .i64) 3 _ w.heap.size _ _ ((rd_T53 t613 a2).f1) from Kd.V_mk ul617_1 ge617_1); clear hva_ hvn_ hvc_ ge617_1 ul617_1; clear hcc617 hce617; have HR617_0 := Aside0.mk hi617_0; have HC617_0 := Aside0.mk hl617_0; clear hi617_0 hl617_0; have HR617_1 := Aside0.mk hi617_1; have HC617_1 := Aside0.mk hl617_1; clear hi617_1 hl617_1; replace p617 := eq_true p617; replace q617 := eq_true q617; have ea_ := Option.some.inj (hx616_0.symm.trans hx617_0); injection ea_ with ea_ en_ ec_; subst ea_; subst ec_; clear en_; have ea_ := Option.some.inj (hx616_1.symm.trans hx617_1); injection ea_ with ea_ en_ ec_; subst ea_; subst ec_; clear en_; have p9 : 0 ≤ (a2 : Int) := of_decide_eq_true (by first | (with_reducible assumption) | assumption); have q9 : (a2 : Int) < ((t613.length : Int) : Int) := of_decide_eq_true (by first | (with_reducible assumption) | assumption); obtain ⟨go9, co9, eo9, gb9, gl9, cl9, HG9⟩ := Kd.N_form HO615.out (by omega); (first | cases eo9 | (injection eo9 with ea_ en_ ec_; (first | subst ea_ | (injection ea_ with ea_; subst ea_)); subst ec_; clear en_)); have GB9 := Aside0.mk gb9; have GG9 := Aside0.mk HG9; clear gb9 gl9 HG9; (first | simp only [add_plain] at hx616_0 | skip); (first | simp only [add_plain] at hx616_1 | skip); (first | simp only [add_plain] at hx617_0 | skip); (first | simp only [add_plain] at hx617_1 | skip); obtain ⟨ce9, hcl9, hM9, hcc9, hfr9⟩ := Kd.N_elem HO615.out z53 (a2 : Int) p9 q9; obtain ⟨ua9_0, uc9_0, ua9_1, uc9_1, rfl, ul9_0, ge9_0, ul9_1, ge9_1⟩ := k53_openF hM9; have hx9_0 : w11.cell? ⟨go9, (a2 : Int).toNat * 2, none⟩ = some (.slice ua9_0 ((rd_T53 t613 a2).f0).length uc9_0) := hcc9 0 _ rfl; have hx9_1 : w11.cell? ⟨go9, (a2 : Int).toNat * 2 + 1, none⟩ = some (.slice ua9_1 ((rd_T53 t613 a2).f1).length uc9_1) := hcc9 1 _ rfl; have hf9_0 : w11.frozen? ⟨go9, (a2 : Int).toNat * 2, none⟩ = false := hfr9 0; have hf9_1 : w11.frozen? ⟨go9, (a2 : Int).toNat * 2 + 1, none⟩ = false := hfr9 1; clear hcl9 hcc9 hfr9 hM9; replace p9 := eq_true p9; replace q9 := eq_true q9; have HX13 := Aside0.mk (show Kd.N k53 53 w11 w.heap.size (fun k_ => (w.heap.size ≤ k_)) (.slice (some ⟨go9, 0, none⟩) t613.length co12) t613 from (by (with_reducible repeat (first | apply Kd.N_alloc | apply Kd.N_drewN | apply Kd.N_drew)); exact HO615.out)); obtain ⟨ce13, hcl13, hM13, hcc13, hfr13⟩ := Kd.N_elem HX13.out z53 (a2 : Int) (of_decide_eq_true (by first | (with_reducible assumption) | assumption)) (by have h_ : (a2 : Int) < ((t613.length : Int) : Int) := of_decide_eq_true (by first | (with_reducible assumption) | assumption); first | exact h_ | (have e_ := (Kd.N_reads' HO615.out).1; omega) | simpa using h_); obtain ⟨ua13_0, uc13_0, ua13_1, uc13_1, rfl, ul13_0, ge13_0, ul13_1, ge13_1⟩ := k53_openF hM13; have HP13 := Kd.N_seg HX13.out (a2 : Int) (of_decide_eq_true (by first | (with_reducible assumption) | assumption)) (by have h_ : (a2 : Int) < ((t613.length : Int) : Int) := of_decide_eq_true (by first | (with_reducible assumption) | assumption); first | exact h_ | (have e_ := (Kd.N_reads' HO615.out).1; omega) | simpa using h_) (seg := [.slice A616_1 ((rd_T53 t613 a2).f1).length c616_1]) (j := 0) hcl13 hcc13 (show 1 ≤ 2 from by decide) (x' := (⟨(rd_T53 t613 a2).f1, (rd_T53 t613 a2).f1⟩ : S53)) (k53_mkF _ _ (⟨(rd_T53 t613 a2).f1, (rd_T53 t613 a2).f1⟩ : S53) (Kd.V_reads' (Kd.V_mono (ok' := (fun k_ => ((fun k_ => (w.heap.size ≤ k_))) k_ ∧ k_ ≠ go9)) (HL617_1.out) (fun k_ hk => ⟨hk.1, fun e_ => (hk.2) (by rw [e_]; rfl)⟩))).2.1 (Kd.V_F (Kd.V_mono (ok' := (fun k_ => ((fun k_ => (w.heap.size ≤ k_))) k_ ∧ k_ ≠ go9)) (HL617_1.out) (fun k_ hk => ⟨hk.1, fun e_ => (hk.2) (by rw [e_]; rfl)⟩))) ul13_1 ge13_1) (fun _ hk => hk); have hx13_0 := hcc13 0 _ rfl; (try simp only [show (k53).sz = 2 from rfl, Nat.mul_one, Nat.add_zero] at hx13_0); have hf13_0 := hfr13 0; (try simp only [show (k53).sz = 2 from rfl, Nat.mul_one, Nat.add_zero] at hf13_0); clear hcl13 hcc13 hfr13 hM13) | ((with_reducible refine gate_store (t := 43) (p := 33) rfl ?_); refine store_event (t := 43) (p := 33) (v := ?vo_w14) (w1 := (w11.setCell ⟨go9, (a2 : Int).toNat * 2, none⟩ (.slice A616_1 ((rd_T53 t613 a2).f1).length c616_1))) ?hg ?ho ?hn ?hr ?_; (case ho => rfl); (case hg => rfl); (case hn => rfl); (case hr => first | (go_simp; done) | (go_simp; rfl)); intro w14 hw; have hg : w11.grownBy w14 (some go9) := (by rw [hw]; exact HP13.2); have hp_ : Kd.N k53 53 w14 w.heap.size (fun k_ => (w.heap.size ≤ k_)) (.slice (some ⟨go9, 0, none⟩) t613.length co12) y618 := (by rw [hw, Ny618.out]; exact HP13.1); clear HP13; have n0_ := Aside0.mk (hp_); have n1_ := Aside0.mk (Kd.V_afterv (v := (.slice (some ⟨go9, 0, none⟩) t613.length co12)) (v1 := (.slice (some ⟨go9, 0, none⟩) t613.length co12)) (ok := (fun k_ => (w.heap.size ≤ k_))) (by (with_reducible repeat (first | apply Kd.V_alloc | apply Kd.V_drewN | apply Kd.V_drew)); exact HL616_0.out) hg (.inl rfl)); have n2_ := Aside0.mk (Kd.V_afterv (v := (.slice (some ⟨go9, 0, none⟩) t613.length co12)) (v1 := (.slice (some ⟨go9, 0, none⟩) t613.length co12)) (ok := (fun k_ => (w.heap.size ≤ k_))) (by (with_reducible repeat (first | apply Kd.V_alloc | apply Kd.V_drewN | apply Kd.V_drew)); exact HL616_1.out) hg (.inl rfl)); have n3_ := Aside0.mk (Kd.V_afterv (v := (.slice (some ⟨go9, 0, none⟩) t613.length co12)) (v1 := (.slice (some ⟨go9, 0, none⟩) t613.length co12)) (ok := (fun k_ => (w.heap.size ≤ k_))) (by (with_reducible repeat (first | apply Kd.V_alloc | apply Kd.V_drewN | apply Kd.V_drew)); exact HL617_0.out) hg (.inl rfl)); have n4_ := Aside0.mk (Kd.V_afterv (v := (.slice (some ⟨go9, 0, none⟩) t613.length co12)) (v1 := (.slice (some ⟨go9, 0, none⟩) t613.length co12)) (ok := (fun k_ => (w.heap.size ≤ k_))) (by (with_reducible repeat (first | apply Kd.V_alloc | apply Kd.V_drewN | apply Kd.V_drew)); exact HL617_1.out) hg (.inl rfl)); have n5_ := Aside0.mk ((by rw [hw]; exact below_set (HB.out) GB9.out : Below w.heap.size w w14)); clear HO615; clear HL616_0; clear HL616_1; clear HL617_0; clear HL617_1; clear HB; have HO615 := n0_; have HL616_0 := n1_; have HL616_1 := n2_; have HL617_0 := n3_; have HL617_1 := n4_; have HB := n5_; clear n0_ n1_ n2_ n3_ n4_ n5_; clear hg hw hp_; have p10 : 0 ≤ (a2 : Int) := of_decide_eq_true (by first | (with_reducible assumption) | assumption); have q10 : (a2 : Int) < ((t613.length : Int) : Int) := of_decide_eq_true (by first | (with_reducible assumption) | assumption); obtain ⟨ce10, hcl10, hM10, hcc10, hfr10⟩ := Kd.N_elem HO615.out z53 (a2 : Int) p10 q10; obtain ⟨ua10_0, uc10_0, ua10_1, uc10_1, rfl, ul10_0, ge10_0, ul10_1, ge10_1⟩ := k53_openF hM10; have hx10_0 : w14.cell? ⟨go9, (a2 : Int).toNat * 2, none⟩ = some (.slice ua10_0 ((rd_T53 y618 a2).f0).length uc10_0) := hcc10 0 _ rfl; have hx10_1 : w14.cell? ⟨go9, (a2 : Int).toNat * 2 + 1, none⟩ = some (.slice ua10_1 ((rd_T53 y618 a2).f1).length uc10_1) := hcc10 1 _ rfl; have hf10_0 : w14.frozen? ⟨go9, (a2 : Int).toNat * 2, none⟩ = false := hfr10 0; have hf10_1 : w14.frozen? ⟨go9, (a2 : Int).toNat * 2 + 1, none⟩ = false := hfr10 1; clear hcl10 hcc10 hfr10 hM10; replace p10 := eq_true p10; replace q10 := eq_true q10; have HX15 := Aside0.mk (show Kd.N k53 53 w14 w.heap.size (fun k_ => (w.heap.size ≤ k_)) (.slice (some ⟨go9, 0, none⟩) t613.length co12) y618 from (by (with_reducible repeat (first | apply Kd.N_alloc | apply Kd.N_drewN | apply Kd.N_drew)); exact HO615.out)); obtain ⟨ce15, hcl15, hM15, hcc15, hfr15⟩ := Kd.N_elem HX15.out z53 (a2 : Int) (of_decide_eq_true (by first | (with_reducible assumption) | assumption)) (by have h_ : (a2 : Int) < ((t613.length : Int) : Int) := of_decide_eq_true (by first | (with_reducible assumption) | assumption); first | exact h_ | (have e_ := (Kd.N_reads' HO615.out).1; omega) | simpa using h_); obtain ⟨ua15_0, uc15_0, ua15_1, uc15_1, rfl, ul15_0, ge15_0, ul15_1, ge15_1⟩ := k53_openF hM15; have HP15 := Kd.N_seg HX15.out (a2 : Int) (of_decide_eq_true (by first | (with_reducible assumption) | assumption)) (by have h_ : (a2 : Int) < ((t613.length : Int) : Int) := of_decide_eq_true (by first | (with_reducible assumption) | assumption); first | exact h_ | (have e_ := (Kd.N_reads' HO615.out).1; omega) | simpa using h_) (seg := [.slice A616_0 ((rd_T53 t613 a2).f0).length c616_0]) (j := 1) hcl15 hcc15 (show 2 ≤ 2 from by decide) (x' := (⟨(rd_T53 y618 a2).f0, (rd_T53 t613 a2).f0⟩ : S53)) (k53_mkF _ _ (⟨(rd_T53 y618 a2).f0, (rd_T53 t613 a2).f0⟩ : S53) ul15_0 ge15_0 (Kd.V_reads' (Kd.V_mono (ok' := (fun k_ => ((fun k_ => (w.heap.size ≤ k_))) k_ ∧ k_ ≠ go9)) (HL616_0.out) (fun k_ hk => ⟨hk.1, fun e_ => (hk.2) (by rw [e_]; rfl)⟩))).2.1 (Kd.V_F (Kd.V_mono (ok' := (fun k_ => ((fun k_ => (w.heap.size ≤ k_))) k_ ∧ k_ ≠ go9)) (HL616_0.out) (fun k_ hk => ⟨hk.1, fun e_ => (hk.2) (by rw [e_]; rfl)⟩)))) (fun _ hk => hk); have hx15_1 := hcc15 1 _ rfl; (try simp only [show (k53).sz = 2 from rfl, Nat.mul_one, Nat.add_zero] at hx15_1); have hf15_1 := hfr15 1; (try simp only [show (k53).sz = 2 from rfl, Nat.mul_one, Nat.add_zero] at hf15_1); clear hcl15 hcc15 hfr15 hM15) | ((with_reducible refine gate_store (t := 43) (p := 38) rfl ?_); refine store_event (t := 43) (p := 38) (v := ?vo_w16) (w1 := (w14.setCell ⟨go9, (a2 : Int).toNat * 2 + 1, none⟩ (.slice A616_0 ((rd_T53 t613 a2).f0).length c616_0))) ?hg ?ho ?hn ?hr ?_; (case ho => rfl); (case hg => rfl); (case hn => rfl); (case hr => first | (go_simp; done) | (go_simp; rfl)); intro w16 hw; have hg : w14.grownBy w16 (some go9) := (by rw [hw]; exact HP15.2); have hp_ : Kd.N k53 53 w16 w.heap.size (fun k_ => (w.heap.size ≤ k_)) (.slice (some ⟨go9, 0, none⟩) t613.length co12) y619 := (by rw [hw, Ny619.out]; exact HP15.1); clear HP15; have n0_ := Aside0.mk (hp_); have n1_ := Aside0.mk (Kd.V_afterv (v := (.slice (some ⟨go9, 0, none⟩) t613.length co12)) (v1 := (.slice (some ⟨go9, 0, none⟩) t613.length co12)) (ok := (fun k_ => (w.heap.size ≤ k_))) (by (with_reducible repeat (first | apply Kd.V_alloc | apply Kd.V_drewN | apply Kd.V_drew)); exact HL616_0.out) hg (.inl rfl)); have n2_ := Aside0.mk (Kd.V_afterv (v := (.slice (some ⟨go9, 0, none⟩) t613.length co12)) (v1 := (.slice (some ⟨go9, 0, none⟩) t613.length co12)) (ok := (fun k_ => (w.heap.size ≤ k_))) (by (with_reducible repeat (first | apply Kd.V_alloc | apply Kd.V_drewN | apply Kd.V_drew)); exact HL616_1.out) hg (.inl rfl)); have n3_ := Aside0.mk (Kd.V_afterv (v := (.slice (some ⟨go9, 0, none⟩) t613.length co12)) (v1 := (.slice (some ⟨go9, 0, none⟩) t613.length co12)) (ok := (fun k_ => (w.heap.size ≤ k_))) (by (with_reducible repeat (first | apply Kd.V_alloc | apply Kd.V_drewN | apply Kd.V_drew)); exact HL617_0.out) hg (.inl rfl)); have n4_ := Aside0.mk (Kd.V_afterv (v := (.slice (some ⟨go9, 0, none⟩) t613.length co12)) (v1 := (.slice (some ⟨go9, 0, none⟩) t613.length co12)) (ok := (fun k_ => (w.heap.size ≤ k_))) (by (with_reducible repeat (first | apply Kd.V_alloc | apply Kd.V_drewN | apply Kd.V_drew)); exact HL617_1.out) hg (.inl rfl)); have n5_ := Aside0.mk ((by rw [hw]; exact below_set (HB.out) GB9.out : Below w.heap.size w w16)); clear HO615; clear HL616_0; clear HL616_1; clear HL617_0; clear HL617_1; clear HB; have HO615 := n0_; have HL616_0 := n1_; have HL616_1 := n2_; have HL617_0 := n3_; have HL617_1 := n4_; have HB := n5_; clear n0_ n1_ n2_ n3_ n4_ n5_; clear hg hw hp_))
        go_ret2
        exact ⟨_, by first | rfl | (simp [errW_none, errW_some] <;> rfl) | (simp [*, errW_none, errW_some] <;> rfl), by (with_reducible repeat (first | apply Kd.N_alloc | apply Kd.N_drewN | apply Kd.N_drew)); exact HO615.out, by repeat (first | (with_reducible first | exact HB.out | apply below_alloc | apply pw_below_drewN | apply below_drew1) | exact HB.out)⟩
      · rw [if_neg c8] at H
        exact absurd H (by simp)
    · rw [if_neg c7] at H
      exact absurd H (by simp)
  · rw [if_neg c5] at H
    have c5b0 : (t612 == 0) = false := beq_eq_false_iff_ne.mpr c5
    have c5b1 : (t612 != 0) = true := bne_iff_ne.mpr c5
    simp only [Option.some.injEq, Prod.mk.injEq] at H
    obtain ⟨rfl, rfl⟩ := H
    go_enter Try.func71, Try.ntmps71
    go_wp2_with (first | ((with_reducible refine gate_callee (f := 106) rfl ?_); refine goesL_ (some 14) rfl rfl Try.func106 (by kernel_rfl) rfl #[.int .i64 a0, .slice A1 l1.length c1, .int .i64 a2] rfl (by (try simp only [List.map_toArray, List.map_cons, List.map_nil]); first | done | rfl | (simp only [List.length_drop, List.length_take]; rfl)) ?_; (with_reducible refine (verditerref06_weighing.calls k a0 _ _ l1 a2 t612 _ ?side1 ?side2 A4.out).mono ?_); (case side1 => repeat (first | exact HR1.out | (with_reducible refine Kd.C_alloc ?_ _) | (with_reducible refine Kd.C_drewN ?_ _) | (with_reducible refine Kd.C_drew ?_))); (case side2 => exact HC1.out); rintro e w' ⟨rfl, ⟨nd, rfl⟩⟩; refine ⟨_, rfl, ?_⟩))
    go_ret2
    exact ⟨_, by first | rfl | (simp [errW_none, errW_some] <;> rfl) | (simp [*, errW_none, errW_some] <;> rfl), by first | exact Kd.S_nil _ _ _ _ _ | exact Kd.N_nil _ _ _ _ _ | exact Kd.V_nil _ _ _ _ _ | exact Kd.Q_nil _ _ _ _ _ | exact Kd.R_nil _ _ _ _ _, by repeat (first | (with_reducible first | exact HB.out | apply below_alloc | apply pw_below_drewN | apply below_drew1) | exact HB.out)⟩

end Go.Proofs.Ytdbeochifofdoaa.X
end

section
-- Written by a program of this session (wip/hook.py, which runs the kit's print.py with contracts proved by hand). Not trusted: Lean checks it.
namespace Go.Proofs.Ytdbeochifofdoaa.X
open Go.RowKit Go.Proofs.YtdbeochifofdoaaW.PrintWords Go.Proofs.YtdbeochifofdoaaW.PrintLast Go.Proofs.YtdbeochifofdoaaW.PrintMore
attribute [local go_sem] max2_int min2_int max_two min_two max_three min_three max_four min_four   -- for this text's walks alone
set_option linter.unusedVariables false
set_option linter.unusedSimpArgs false

/-! ### verditerref06_Without: function 72 -/
def verditerref06_Without.f (k : Nat) (a0 : Int) (l1 : List (S53)) (a2 : Int) : Option ((List (S53)) × Int) := (verditerref06_weighing.f k a0 l1 a2).bind fun t620 => (if t620 = 0 then ((verditerref06_Copy.f k l1).bind fun t621 => ((some (([] : List (S53)) : List (S53))).bind fun y624 => (if 0 ≤ a2 then (if a2 ≤ (t621.length : Int) then ((some (t621.take (a2 : Int).toNat : List (S53))).bind fun y627 => (if y624.length + y627.length < 2932031007402 then ((some (y624 ++ y627 : List (S53))).bind fun y632 => (if 0 ≤ (wrap64 (a2 + 1)) then (if (wrap64 (a2 + 1)) ≤ (t621.length : Int) then ((some (t621.drop ((wrap64 (a2 + 1)) : Int).toNat : List (S53))).bind fun y635 => (if y632.length + y635.length < 2932031007402 then (some ((y632 ++ y635), 0)) else (none))) else (none)) else (none))) else (none))) else (none)) else (none)))) else (some (([] : List (S53)), t620)))
def verditerref06_Without.T5 : Bool × List (List Nat × List Nat) := (true, [([], []), ([], []), ([], []), ([1, 2], [1, 2]), ([0, 3], [0, 3]), ([], []), ([], []), ([6], [6]), ([5, 7], [5, 7]), ([4, 8, 4], [4, 8]), ([9, 9, 0, 1, 2, 3, 4, 5, 6, 7, 8, 9], [9]), ([10, 0, 1, 2, 3, 4, 5, 6, 7, 8, 9, 10], [])])
def verditerref06_Without.B5 : List Nat := [0, 0, 0, 6, 15, 0, 0, 64, 224, 511, 1023, 2047]
theorem verditerref06_Without.tab5 : rtab .any (opsOf Try.f72 5) = verditerref06_Without.T5 := by kernel_rfl
theorem verditerref06_Without.bits5 : waitsOk verditerref06_Without.T5.2 verditerref06_Without.B5 = true := by kernel_rfl
set_option maxHeartbeats 8000000 in
set_option maxRecDepth 100000 in
theorem verditerref06_Without.calls (k : Nat) (a0 : Int) (A1 : Option Addr) (c1 : Nat) (l1 : List (S53)) (a2 : Int) (r1 : List (S53)) (r2 : Int) (w : World) (hr1 : Kd.C k53 w A1 l1.length l1) (hc1 : l1.length ≤ c1) (h : verditerref06_Without.f k a0 l1 a2 = some (r1, r2)) :
    Calls Try.prog 72 #[.int .i64 a0, .slice A1 l1.length c1, .int .i64 a2] w fun e w' => ∃ v0_ : Value, e = .returned (.tuple #[v0_, .int .i64 r2]) ∧ Kd.N k53 53 w' w.heap.size (fun k_ => (w.heap.size ≤ k_)) v0_ r1 ∧ Below w.heap.size w w' := by
  have HR1 := Aside0.mk hr1
  have HC1 := Aside0.mk hc1
  clear hr1 hc1
  have HB := Aside0.mk (Below.refl w.heap.size w)
  have H : ((verditerref06_weighing.f k a0 l1 a2).bind fun t620 => (if t620 = 0 then ((verditerref06_Copy.f k l1).bind fun t621 => ((some (([] : List (S53)) : List (S53))).bind fun y624 => (if 0 ≤ a2 then (if a2 ≤ (t621.length : Int) then ((some (t621.take (a2 : Int).toNat : List (S53))).bind fun y627 => (if y624.length + y627.length < 2932031007402 then ((some (y624 ++ y627 : List (S53))).bind fun y632 => (if 0 ≤ (wrap64 (a2 + 1)) then (if (wrap64 (a2 + 1)) ≤ (t621.length : Int) then ((some (t621.drop ((wrap64 (a2 + 1)) : Int).toNat : List (S53))).bind fun y635 => (if y632.length + y635.length < 2932031007402 then (some ((y632 ++ y635), 0)) else (none))) else (none)) else (none))) else (none))) else (none)) else (none)))) else (some (([] : List (S53)), t620)))) = some (r1, r2) := h
  clear h
  replace H := Option.bind_eq_some_iff.mp H
  obtain ⟨t620, A40, H⟩ := H
  replace H : (if t620 = 0 then ((verditerref06_Copy.f k l1).bind fun t621 => ((some (([] : List (S53)) : List (S53))).bind fun y624 => (if 0 ≤ a2 then (if a2 ≤ (t621.length : Int) then ((some (t621.take (a2 : Int).toNat : List (S53))).bind fun y627 => (if y624.length + y627.length < 2932031007402 then ((some (y624 ++ y627 : List (S53))).bind fun y632 => (if 0 ≤ (wrap64 (a2 + 1)) then (if (wrap64 (a2 + 1)) ≤ (t621.length : Int) then ((some (t621.drop ((wrap64 (a2 + 1)) : Int).toNat : List (S53))).bind fun y635 => (if y632.length + y635.length < 2932031007402 then (some ((y632 ++ y635), 0)) else (none))) else (none)) else (none))) else (none))) else (none)) else (none)))) else (some (([] : List (S53)), t620))) = some (r1, r2) := H
  have A4 := Aside0.mk A40
  clear A40
  by_cases c5 : t620 = 0
  · rw [if_pos c5] at H
    have c5b0 : (t620 == 0) = true := beq_iff_eq.mpr c5
    have c5b1 : (t620 != 0) = false := bne_eq_false_iff_eq.mpr c5
    clear c5
    replace H := Option.bind_eq_some_iff.mp H
    obtain ⟨t621, A60, H⟩ := H
    replace H : ((some (([] : List (S53)) : List (S53))).bind fun y624 => (if 0 ≤ a2 then (if a2 ≤ (t621.length : Int) then ((some (t621.take (a2 : Int).toNat : List (S53))).bind fun y627 => (if y624.length + y627.length < 2932031007402 then ((some (y624 ++ y627 : List (S53))).bind fun y632 => (if 0 ≤ (wrap64 (a2 + 1)) then (if (wrap64 (a2 + 1)) ≤ (t621.length : Int) then ((some (t621.drop ((wrap64 (a2 + 1)) : Int).toNat : List (S53))).bind fun y635 => (if y632.length + y635.length < 2932031007402 then (some ((y632 ++ y635), 0)) else (none))) else (none)) else (none))) else (none))) else (none)) else (none))) = some (r1, r2) := H
    have A6 := Aside0.mk A60
    clear A60
    obtain ⟨y624, hy624⟩ : ∃ y_ : List (S53), y_ = (([] : List (S53))) := ⟨_, rfl⟩
    replace H : (if 0 ≤ a2 then (if a2 ≤ (t621.length : Int) then ((some (t621.take (a2 : Int).toNat : List (S53))).bind fun y627 => (if y624.length + y627.length < 2932031007402 then ((some (y624 ++ y627 : List (S53))).bind fun y632 => (if 0 ≤ (wrap64 (a2 + 1)) then (if (wrap64 (a2 + 1)) ≤ (t621.length : Int) then ((some (t621.drop ((wrap64 (a2 + 1)) : Int).toNat : List (S53))).bind fun y635 => (if y632.length + y635.length < 2932031007402 then (some ((y632 ++ y635), 0)) else (none))) else (none)) else (none))) else (none))) else (none)) else (none)) = some (r1, r2) := by first | (rw [hy624]; with_reducible exact H) | (have H2_ := (Option.bind_some _ _).symm.trans H; rw [hy624]; with_reducible exact H2_) | (have H2_ := (Option.bind_some _ _).symm.trans H; with_reducible exact H2_) | with_reducible exact H | (rw [hy624]; exact H) | exact H
    have Ny624 := Aside0.mk hy624
    clear hy624
    by_cases c7 : 0 ≤ a2
    · rw [if_pos c7] at H
      have c7b0 := eq_true c7
      have c7b1 : decide (0 ≤ a2) = true := decide_eq_true c7
      clear c7
      by_cases c8 : a2 ≤ (t621.length : Int)
      · rw [if_pos c8] at H
        have c8b0 := eq_true c8
        have c8b1 : decide (a2 ≤ (t621.length : Int)) = true := decide_eq_true c8
        clear c8
        obtain ⟨y627, hy627⟩ : ∃ y_ : List (S53), y_ = (t621.take (a2 : Int).toNat) := ⟨_, rfl⟩
        replace H : (if y624.length + y627.length < 2932031007402 then ((some (y624 ++ y627 : List (S53))).bind fun y632 => (if 0 ≤ (wrap64 (a2 + 1)) then (if (wrap64 (a2 + 1)) ≤ (t621.length : Int) then ((some (t621.drop ((wrap64 (a2 + 1)) : Int).toNat : List (S53))).bind fun y635 => (if y632.length + y635.length < 2932031007402 then (some ((y632 ++ y635), 0)) else (none))) else (none)) else (none))) else (none)) = some (r1, r2) := by first | (rw [hy627]; with_reducible exact H) | (have H2_ := (Option.bind_some _ _).symm.trans H; rw [hy627]; with_reducible exact H2_) | (have H2_ := (Option.bind_some _ _).symm.trans H; with_reducible exact H2_) | with_reducible exact H | (rw [hy627]; exact H) | exact H
        have Ny627 := Aside0.mk hy627
        clear hy627
        by_cases c9 : y624.length + y627.length < 2932031007402
        · rw [if_pos c9] at H
          have LMc9 := Aside0.mk c9
          clear c9
          obtain ⟨y632, hy632⟩ : ∃ y_ : List (S53), y_ = (y624 ++ y627) := ⟨_, rfl⟩
          replace H : (if 0 ≤ (wrap64 (a2 + 1)) then (if (wrap64 (a2 + 1)) ≤ (t621.length : Int) then ((some (t621.drop ((wrap64 (a2 + 1)) : Int).toNat : List (S53))).bind fun y635 => (if y632.length + y635.length < 2932031007402 then (some ((y632 ++ y635), 0)) else (none))) else (none)) else (none)) = some (r1, r2) := by first | (rw [hy632]; with_reducible exact H) | (have H2_ := (Option.bind_some _ _).symm.trans H; rw [hy632]; with_reducible exact H2_) | (have H2_ := (Option.bind_some _ _).symm.trans H; with_reducible exact H2_) | with_reducible exact H | (rw [hy632]; exact H) | exact H
          have Ny632 := Aside0.mk hy632
          clear hy632
          obtain ⟨ji10, hji10⟩ : ∃ j_ : Int, (wrap64 (a2 + 1)) = j_ := ⟨_, rfl⟩
          replace H : (if 0 ≤ (ji10) then (if (ji10) ≤ (t621.length : Int) then ((some (t621.drop ((ji10) : Int).toNat : List (S53))).bind fun y635 => (if y632.length + y635.length < 2932031007402 then (some ((y632 ++ y635), 0)) else (none))) else (none)) else (none)) = some (r1, r2) := by first | (rw [hji10] at H; exact H) | (simp only [hji10] at H ⊢; exact H)
          (try rw [hji10] at A4)
          (try rw [hji10] at A6)
          have hji10w : (IntKind.i64.wrap (a2 + 1)) = ji10 := (i64_w _).trans hji10
          by_cases c11 : 0 ≤ (ji10)
          · rw [if_pos c11] at H
            have c11b0 := eq_true c11
            have c11b1 : decide (0 ≤ (ji10)) = true := decide_eq_true c11
            clear c11
            by_cases c12 : (ji10) ≤ (t621.length : Int)
            · rw [if_pos c12] at H
              have c12b0 := eq_true c12
              have c12b1 : decide ((ji10) ≤ (t621.length : Int)) = true := decide_eq_true c12
              clear c12
              obtain ⟨y635, hy635⟩ : ∃ y_ : List (S53), y_ = (t621.drop ((ji10) : Int).toNat) := ⟨_, rfl⟩
              replace H : (if y632.length + y635.length < 2932031007402 then (some ((y632 ++ y635), 0)) else (none)) = some (r1, r2) := by first | (rw [hy635]; with_reducible exact H) | (have H2_ := (Option.bind_some _ _).symm.trans H; rw [hy635]; with_reducible exact H2_) | (have H2_ := (Option.bind_some _ _).symm.trans H; with_reducible exact H2_) | with_reducible exact H | (rw [hy635]; exact H) | exact H
              have Ny635 := Aside0.mk hy635
              clear hy635
              by_cases c13 : y632.length + y635.length < 2932031007402
              · rw [if_pos c13] at H
                have LMc13 := Aside0.mk c13
                clear c13
                obtain ⟨y640, hy640⟩ : ∃ y_ : List (S53), y_ = (y632 ++ y635) := ⟨_, rfl⟩
                replace H : (some (y640, 0)) = some (r1, r2) := by first | (rw [hy640]; with_reducible exact H) | (have H2_ := (Option.bind_some _ _).symm.trans H; rw [hy640]; with_reducible exact H2_) | (have H2_ := (Option.bind_some _ _).symm.trans H; with_reducible exact H2_) | with_reducible exact H | (rw [hy640]; exact H) | exact H
                have Ny640 := Aside0.mk hy640
                clear hy640
                simp only [Option.some.injEq, Prod.mk.injEq] at H
                obtain ⟨rfl, rfl⟩ := H
                go_enter Try.func72, Try.ntmps72
                try go_wp2_with (first | ((with_reducible refine gate_callee (f := 106) rfl ?_); refine goesL_ (some 13) rfl rfl Try.func106 (by kernel_rfl) rfl #[.int .i64 a0, .slice A1 l1.length c1, .int .i64 a2] rfl (by (try simp only [List.map_toArray, List.map_cons, List.map_nil]); first | done | rfl | (simp only [List.length_drop, List.length_take]; rfl)) ?_; (with_reducible refine (verditerref06_weighing.calls k a0 _ _ l1 a2 t620 _ ?side1 ?side2 A4.out).mono ?_); (case side1 => repeat (first | exact HR1.out | (with_reducible refine Kd.C_alloc ?_ _) | (with_reducible refine Kd.C_drewN ?_ _) | (with_reducible refine Kd.C_drew ?_))); (case side2 => exact HC1.out); rintro e w' ⟨rfl, ⟨nd, rfl⟩⟩; refine ⟨_, rfl, ?_⟩) | ((with_reducible refine gate_callee (f := 70) rfl ?_); refine goesL_ (some 18) rfl rfl Try.func70 (by kernel_rfl) rfl #[.slice A1 l1.length c1] rfl (by (try simp only [List.map_toArray, List.map_cons, List.map_nil]); first | done | rfl | (simp only [List.length_drop, List.length_take]; rfl)) ?_; (with_reducible refine (verditerref06_Copy.calls k _ _ l1 t621 _ ?side1 ?side2 A6.out).mono ?_); (case side1 => repeat (first | exact HR1.out | (with_reducible refine Kd.C_alloc ?_ _) | (with_reducible refine Kd.C_drewN ?_ _) | (with_reducible refine Kd.C_drew ?_))); (case side2 => exact HC1.out); rintro e w14 ⟨v622, rfl, ho0, hb⟩; refine ⟨_, rfl, ?_⟩; have n0_ := Aside0.mk (Kd.N_lower (Kd.N_mono (ok' := fun k_ => (w.heap.size ≤ k_)) (Kd.S_N (Kd.S_bound ho0)) (fun k_ hk_ => (Nat.le_trans (below_size (by repeat (first | (with_reducible first | exact HB.out | apply below_alloc | apply pw_below_drewN | apply below_drew1) | exact HB.out))) hk_.2.1))) (below_size (by repeat (first | (with_reducible first | exact HB.out | apply below_alloc | apply pw_below_drewN | apply below_drew1) | exact HB.out)))); have n1_ := Aside0.mk (below_step (by repeat (first | (with_reducible first | exact HB.out | apply below_alloc | apply pw_below_drewN | apply below_drew1) | exact HB.out)) hb); clear HB; have HO623 := n0_; have HB := n1_; clear n0_ n1_; (try clear hb); (try clear hb2); (try clear hk); (try clear hi); (try clear ho0)))
                have n0_ := Aside0.mk (Kd.N_drew HO623.out)
                have n1_ := Aside0.mk (below_drew1 HB.out)
                clear HO623
                clear HB
                have HO623 := n0_
                have HB := n1_
                clear n0_ n1_
                obtain ⟨Ao17, co17, eo17⟩ := Kd.N_slice HO623.out
                (first | subst eo17 | (injection eo17 with f1_ f2_ f3_; have f4_ := f1_.symm; have f5_ := f3_.symm; clear f1_ f2_ f3_; subst f4_; subst f5_))
                have q16 : (a2 : Int) ≤ ((t621.length : Int) : Int) := of_decide_eq_true (by first | (with_reducible assumption) | assumption)
                obtain ⟨i016, hi016, _, hsz16, _⟩ := info_parts info53
                have hroom16 : t621.length ≤ co17 := (Kd.N_reads' HO623.out).2.1
                have hC16 : Kd.F k53 _ _ Ao17 t621.length t621 := (Kd.V_at (base := w.heap.size) (Kd.N_V HO623.out)).2.2
                have hcut16 := cut_to (P := Try.prog) 22 53 .i64 Try.underlying22 hi016 Ao17 t621.length co17 a2 (of_decide_eq_true (by first | (with_reducible assumption) | assumption)) q16 hroom16
                have hr16 := Kd.F_take (m := (a2 : Int).toNat) hC16 (by omega)
                have hy16 : y627.length = (a2 : Int).toNat := (by rw [Ny627.out, List.length_take]; omega)
                rw [← Ny627.out] at hr16
                rw [← hy16] at hcut16
                have HO631 := Aside0.mk (show Kd.V k53 53 _ w.heap.size _ (.slice Ao17 y627.length co17) y627 from Kd.V_mk (by omega) hr16)
                have HC631 := Aside0.mk (show y627.length ≤ co17 from by omega)
                clear hr16 hC16 hroom16 hi016 hsz16
                have KY16 := Aside0.mk hy16
                clear hy16
                replace q16 := eq_true q16
                have q18 : ((ji10) : Int) ≤ ((t621.length : Int) : Int) := of_decide_eq_true (by first | (with_reducible assumption) | assumption)
                obtain ⟨i018, hi018, _, hsz18, _⟩ := info_parts info53
                have hroom18 : t621.length ≤ co17 := (Kd.N_reads' HO623.out).2.1
                have hC18 : Kd.F k53 _ _ Ao17 t621.length t621 := (Kd.V_at (base := w.heap.size) (Kd.N_V HO623.out)).2.2
                have q018 : (0 : Int) ≤ ((ji10) : Int) := of_decide_eq_true (by first | (with_reducible assumption) | assumption)
                have hcut18 := cut_from (P := Try.prog) 22 53 .i64 Try.underlying22 hi018 2 hsz18 Ao17 t621.length co17 (ji10) q018 q18
                have hr18 := Kd.F_cut (m := ((ji10) : Int).toNat) (c := co17) hC18 (by omega) hroom18
                obtain ⟨A18, hA18⟩ : ∃ A1, A1 = (if co17 = ((ji10) : Int).toNat then Ao17 else (Ao17 : Option Addr).map (·.add (((ji10) : Int).toNat * 2))) := ⟨_, rfl⟩
                obtain ⟨c18, hc18⟩ : ∃ c1, c1 = co17 - ((ji10) : Int).toNat := ⟨_, rfl⟩
                have hy18 : y635.length = t621.length - ((ji10) : Int).toNat := (by rw [Ny635.out, List.length_drop] <;> omega)
                rw [show (t621).drop ((ji10) : Int).toNat = y635 from Ny635.out.symm] at hr18
                replace hr18 : Kd.F k53 _ _ A18 y635.length y635 := (by rw [hA18]; exact hr18)
                rw [← hy18, ← hA18, ← hc18] at hcut18
                have HO639 := Aside0.mk (show Kd.V k53 53 _ w.heap.size _ (.slice A18 y635.length c18) y635 from Kd.V_mk (by rw [hy18, hc18]; exact Nat.sub_le_sub_right hroom18 _) hr18)
                have HC639 := Aside0.mk (show y635.length ≤ c18 from by rw [hy18, hc18]; exact Nat.sub_le_sub_right hroom18 _)
                clear hr18 hC18 hroom18 hi018 hsz18 hc18
                have KY18 := Aside0.mk hy18
                have KA18 := Aside0.mk hA18
                clear hy18 hA18
                replace q18 := eq_true q18
                refine start_ (n := 12) (S := fun w' => True) (ds := []) #[false, false, false, false, false, false, false, false, false, false, false, false] (by kernel_rfl) rfl rfl trivial (fun hHeld => ?_); refine with_tabW verditerref06_Without.tab5 verditerref06_Without.bits5 (fun HT_ HW_ => ?_)
                generalize w14.drew = w15 at HO623 HB HO631 HO639 hHeld ⊢
                refine pure_ (i := 1) (N := some 20) (v := ?_) (a' := ?_) #[false, true, false, false, false, false, false, false, false, false, false, false] rfl rfl (any_of HT_.out (by kernel_rfl)) (fun _ _ _ h => h) (Or.inl ⟨by rfl, ?_⟩) ?_ ?_
                rotate_left
                · intro w'
                  go_simp
                  with_reducible rfl
                rotate_left
                · simp only [Act.put, List.setIfInBounds_toArray, List.set_cons_zero, List.set_cons_succ, i64_w, i32_w]
                  rfl
                refine pure_ (i := 2) (N := some 21) (v := ?_) (a' := ?_) #[false, true, true, false, false, false, false, false, false, false, false, false] rfl rfl (any_of HT_.out (by kernel_rfl)) (fun _ _ _ h => h) (Or.inl ⟨by rfl, ?_⟩) ?_ ?_
                rotate_left
                · intro w'
                  go_simp
                  with_reducible rfl
                rotate_left
                · simp only [Act.put, List.setIfInBounds_toArray, List.set_cons_zero, List.set_cons_succ, i64_w, i32_w]
                  rfl
                refine pure_ (i := 3) (N := some 22) (v := ?_) (a' := ?_) #[false, true, true, true, false, false, false, false, false, false, false, false] rfl rfl (any_of HT_.out (by kernel_rfl)) (fun _ _ _ h => h) (Or.inl ⟨by rfl, ?_⟩) ?_ ?_
                rotate_left
                · intro w'
                  go_simp
                  with_reducible rfl
                rotate_left
                · simp only [Act.put, List.setIfInBounds_toArray, List.set_cons_zero, List.set_cons_succ, i64_w, i32_w]
                  rfl
                refine pure_ (i := 5) (N := some 24) (v := ?_) (a' := ?_) #[false, true, true, true, false, true, false, false, false, false, false, false] rfl rfl (any_of HT_.out (by kernel_rfl)) (fun _ _ _ h => h) (Or.inl ⟨by rfl, ?_⟩) ?_ ?_
                rotate_left
                · intro w'
                  go_simp
                  with_reducible rfl
                rotate_left
                · simp only [Act.put, List.setIfInBounds_toArray, List.set_cons_zero, List.set_cons_succ, i64_w, i32_w]
                  rfl
                refine pure_ (i := 6) (N := some 25) (v := ?_) (a' := ?_) #[false, true, true, true, false, true, true, false, false, false, false, false] rfl rfl (any_of HT_.out (by kernel_rfl)) (fun _ _ _ h => h) (Or.inl ⟨by rfl, ?_⟩) ?_ ?_
                rotate_left
                · intro w'
                  go_simp
                  with_reducible rfl
                rotate_left
                · simp only [Act.put, List.setIfInBounds_toArray, List.set_cons_zero, List.set_cons_succ, i64_w, i32_w]
                  rfl
                refine pure_ (i := 7) (N := some 26) (v := ?_) (a' := ?_) #[false, true, true, true, false, true, true, true, false, false, false, false] rfl rfl (any_of HT_.out (by kernel_rfl)) (fun _ _ _ h => h) (Or.inl ⟨by rfl, ?_⟩) ?_ ?_
                rotate_left
                · intro w'
                  go_simp
                  with_reducible rfl
                rotate_left
                · simp only [Act.put, List.setIfInBounds_toArray, List.set_cons_zero, List.set_cons_succ, i64_w, i32_w]
                  rfl
                refine pure_ (i := 8) (N := some 27) (v := ?_) (a' := ?_) #[false, true, true, true, false, true, true, true, true, false, false, false] rfl rfl (any_of HT_.out (by kernel_rfl)) (fun _ _ _ h => h) (Or.inl ⟨by rfl, ?_⟩) ?_ ?_
                rotate_left
                · intro w'
                  go_simp
                  with_reducible rfl
                rotate_left
                · simp only [Act.put, List.setIfInBounds_toArray, List.set_cons_zero, List.set_cons_succ, i64_w, i32_w]
                  rfl
                refine one_ (i := 0) (N := some 19) #[true, true, true, true, false, true, true, true, true, false, false, false] rfl rfl (one_of HT_.out (by kernel_rfl)) (by decide) (fun K hK => ?_)
                refine Kd.N_lit_step k53 _ 53 ?hg (N' := 19) ?hd (xs := ([] : List (S53))) (inner := []) (ok := (fun k_ => (w.heap.size ≤ k_) ∧ some k_ ≠ (.slice Ao17 t621.length co17 : Value).ownBlock)) (okp := (fun k_ => (w.heap.size ≤ k_) ∧ some k_ ≠ (.slice Ao17 t621.length co17 : Value).ownBlock)) ?hr ?hp (fun _ hk => hk) ((show ∀ k_, w15.heap.size ≤ k_ → (fun k_ => (w.heap.size ≤ k_) ∧ some k_ ≠ (.slice Ao17 t621.length co17 : Value).ownBlock) k_ from fun k_ hk => ⟨(Nat.le_trans (below_size (by repeat (first | (with_reducible first | exact HB.out | apply below_alloc | apply pw_below_drewN | apply below_drew1) | exact HB.out))) hk), Kd.fresh' (Kd.N_lt (by (with_reducible repeat (first | apply Kd.N_alloc | apply Kd.N_drewN | apply Kd.N_drew)); exact HO623.out)) k_ hk⟩) _ (Nat.le_refl _)) (Below.refl _ _) (Nat.le_refl _) (by simp) ?_; (case hd => rfl); (case hg => rfl); (case hr => first | (go_simp; done) | (go_simp; rfl)); (case hp => exact (Reps.none _ _))
                intro v625 w19 ho20 hb hg_ hnew_
                clear hg_ hnew_
                (first | rw [← Ny624.out] at ho20 | (simp only [Int.reduceToNat] at ho20; rw [← Ny624.out] at ho20))
                have n0_ := Aside0.mk (Kd.N_elder' (by (with_reducible repeat (first | apply Kd.N_alloc | apply Kd.N_drewN | apply Kd.N_drew)); exact HO623.out) (Kd.N_base ho20) hb)
                have n1_ := Aside0.mk (Kd.V_elder' (by (with_reducible repeat (first | apply Kd.V_alloc | apply Kd.V_drewN | apply Kd.V_drew)); exact HO631.out) (Kd.N_base ho20) hb)
                have n2_ := Aside0.mk (Kd.V_elder' (by (with_reducible repeat (first | apply Kd.V_alloc | apply Kd.V_drewN | apply Kd.V_drew)); exact HO639.out) (Kd.N_base ho20) hb)
                have n3_ := Aside0.mk (Kd.N_lower ho20 (below_size (by repeat (first | (with_reducible first | exact HB.out | apply below_alloc | apply pw_below_drewN | apply below_drew1) | exact HB.out))))
                have n4_ := Aside0.mk (below_step (by repeat (first | (with_reducible first | exact HB.out | apply below_alloc | apply pw_below_drewN | apply below_drew1) | exact HB.out)) hb)
                clear HO623
                clear HO631
                clear HO639
                clear HB
                have HO623 := n0_
                have HO631 := n1_
                have HO639 := n2_
                have HO626 := n3_
                have HB := n4_
                clear n0_ n1_ n2_ n3_ n4_
                clear hb ho20
                refine hK.out _ _ trivial (fun hHeld => ?_)
                clear hK K
                refine norm_ (a' := ?_) ?_ ?_
                rotate_left
                · show Act.put _ (some 19) _ = _
                  simp only [Act.put, List.setIfInBounds_toArray, List.set_cons_zero, List.set_cons_succ, i64_w, i32_w]
                  rfl
                refine one_ (i := 4) (N := some 23) #[true, true, true, true, true, true, true, true, true, false, false, false] rfl rfl (one_of HT_.out (by kernel_rfl)) (by decide) (fun K hK => ?_)
                refine Kd.N_append_rows_step k53 (w0 := w) w.heap.size (by rfl) (.tmp 19) (.tmp 22) 22 53 (.agg #[(.slice none 0 0), (.slice none 0 0)]) 48 rfl Try.underlying22 info53 rfl (by decide) (by omega) v625 y624 y627 _ _ _ (fun k_ => (w.heap.size ≤ k_)) (fun k_ => ((fun k_ => (w.heap.size ≤ k_))) k_ ∧ some k_ ≠ (v625 : Value).ownBlock) rfl rfl ?aO ?aR (fun _ hk => hk) ?aF ?aB ?aS ?aL ?_
                (case aR => exact (by skip; exact Kd.V_F (Kd.V_mono (ok' := (fun k_ => ((fun k_ => (w.heap.size ≤ k_))) k_ ∧ some k_ ≠ (v625 : Value).ownBlock)) (HO631.out) (fun k_ hk => ⟨hk.1, hk.2⟩))))
                (case aB => exact (by repeat (first | (with_reducible first | exact HB.out | apply below_alloc | apply pw_below_drewN | apply below_drew1) | exact HB.out)))
                (case aF => exact (fun k_ hk => (Nat.le_trans (below_size (by repeat (first | (with_reducible first | exact HB.out | apply below_alloc | apply pw_below_drewN | apply below_drew1) | exact HB.out))) hk)))
                (case aO => exact (by (with_reducible repeat (first | apply Kd.N_alloc | apply Kd.N_drewN | apply Kd.N_drew)); exact Kd.N_mono HO626.out (fun _ hk => hk.1)))
                (case aS => exact (below_size (by repeat (first | (with_reducible first | exact HB.out | apply below_alloc | apply pw_below_drewN | apply below_drew1) | exact HB.out))))
                (case aL => have := LMc9.out; omega)
                intro v633 w21 ho hb hg hat
                rw [← Ny632.out] at ho
                have n0_ := Aside0.mk (Kd.N_afterv (ok := (fun k_ => (w.heap.size ≤ k_))) (by (with_reducible repeat (first | apply Kd.N_alloc | apply Kd.N_drewN | apply Kd.N_drew)); exact HO623.out) hg hat)
                have n1_ := Aside0.mk (Kd.V_afterv (ok := (fun k_ => (w.heap.size ≤ k_))) (by (with_reducible repeat (first | apply Kd.V_alloc | apply Kd.V_drewN | apply Kd.V_drew)); exact HO631.out) hg hat)
                have n2_ := Aside0.mk (Kd.V_afterv (ok := (fun k_ => (w.heap.size ≤ k_))) (by (with_reducible repeat (first | apply Kd.V_alloc | apply Kd.V_drewN | apply Kd.V_drew)); exact HO639.out) hg hat)
                have n3_ := Aside0.mk (hb)
                have n4_ := Aside0.mk (ho)
                clear HO623
                clear HO631
                clear HO639
                clear HB
                clear HO626
                have HO623 := n0_
                have HO631 := n1_
                have HO639 := n2_
                have HB := n3_
                have HO634 := n4_
                clear n0_ n1_ n2_ n3_ n4_
                clear ho hb hg hat
                refine hK.out _ _ trivial (fun hHeld => ?_)
                clear hK K
                refine norm_ (a' := ?_) ?_ ?_
                rotate_left
                · show Act.put _ (some 23) _ = _
                  simp only [Act.put, List.setIfInBounds_toArray, List.set_cons_zero, List.set_cons_succ, i64_w, i32_w]
                  rfl
                refine one_ (i := 9) (N := some 28) #[true, true, true, true, true, true, true, true, true, true, false, false] rfl rfl (one_of HT_.out (by kernel_rfl)) (by decide) (fun K hK => ?_)
                refine Kd.N_append_rows_step k53 (w0 := w) w.heap.size (by rfl) (.tmp 23) (.tmp 27) 22 53 (.agg #[(.slice none 0 0), (.slice none 0 0)]) 48 rfl Try.underlying22 info53 rfl (by decide) (by omega) v633 y632 y635 _ _ _ (fun k_ => (w.heap.size ≤ k_)) (fun k_ => ((fun k_ => (w.heap.size ≤ k_))) k_ ∧ some k_ ≠ (v633 : Value).ownBlock) rfl rfl ?aO ?aR (fun _ hk => hk) ?aF ?aB ?aS ?aL ?_
                (case aR => exact (by skip; exact Kd.V_F (Kd.V_mono (ok' := (fun k_ => ((fun k_ => (w.heap.size ≤ k_))) k_ ∧ some k_ ≠ (v633 : Value).ownBlock)) (HO639.out) (fun k_ hk => ⟨hk.1, hk.2⟩))))
                (case aB => exact (by repeat (first | (with_reducible first | exact HB.out | apply below_alloc | apply pw_below_drewN | apply below_drew1) | exact HB.out)))
                (case aF => exact (fun k_ hk => (Nat.le_trans (below_size (by repeat (first | (with_reducible first | exact HB.out | apply below_alloc | apply pw_below_drewN | apply below_drew1) | exact HB.out))) hk)))
                (case aO => exact (by (with_reducible repeat (first | apply Kd.N_alloc | apply Kd.N_drewN | apply Kd.N_drew)); exact HO634.out))
                (case aS => exact (below_size (by repeat (first | (with_reducible first | exact HB.out | apply below_alloc | apply pw_below_drewN | apply below_drew1) | exact HB.out))))
                (case aL => have := LMc13.out; omega)
                intro v641 w22 ho hb hg hat
                rw [← Ny640.out] at ho
                have n0_ := Aside0.mk (Kd.N_afterv (ok := (fun k_ => (w.heap.size ≤ k_))) (by (with_reducible repeat (first | apply Kd.N_alloc | apply Kd.N_drewN | apply Kd.N_drew)); exact HO623.out) hg hat)
                have n1_ := Aside0.mk (Kd.V_afterv (ok := (fun k_ => (w.heap.size ≤ k_))) (by (with_reducible repeat (first | apply Kd.V_alloc | apply Kd.V_drewN | apply Kd.V_drew)); exact HO631.out) hg hat)
                have n2_ := Aside0.mk (Kd.V_afterv (ok := (fun k_ => (w.heap.size ≤ k_))) (by (with_reducible repeat (first | apply Kd.V_alloc | apply Kd.V_drewN | apply Kd.V_drew)); exact HO639.out) hg hat)
                have n3_ := Aside0.mk (hb)
                have n4_ := Aside0.mk (ho)
                clear HO623
                clear HO631
                clear HO639
                clear HB
                clear HO634
                have HO623 := n0_
                have HO631 := n1_
                have HO639 := n2_
                have HB := n3_
                have HO642 := n4_
                clear n0_ n1_ n2_ n3_ n4_
                clear ho hb hg hat
                refine hK.out _ _ trivial (fun hHeld => ?_)
                clear hK K
                refine norm_ (a' := ?_) ?_ ?_
                rotate_left
                · show Act.put _ (some 28) _ = _
                  simp only [Act.put, List.setIfInBounds_toArray, List.set_cons_zero, List.set_cons_succ, i64_w, i32_w]
                  rfl
                refine pure_ (i := 10) (N := some 6) (v := ?_) (a' := ?_) #[true, true, true, true, true, true, true, true, true, true, true, false] rfl rfl (any_of HT_.out (by kernel_rfl)) (fun _ _ _ h => h) (Or.inl ⟨by rfl, ?_⟩) ?_ ?_
                rotate_left
                · intro w'
                  go_simp
                  with_reducible rfl
                rotate_left
                · simp only [Act.put, List.setIfInBounds_toArray, List.set_cons_zero, List.set_cons_succ, i64_w, i32_w]
                  rfl
                refine pure_ (i := 11) (N := some 7) (v := ?_) (a' := ?_) #[true, true, true, true, true, true, true, true, true, true, true, true] rfl rfl (any_of HT_.out (by kernel_rfl)) (fun _ _ _ h => h) (Or.inl ⟨by rfl, ?_⟩) ?_ ?_
                rotate_left
                · intro w'
                  go_simp
                  with_reducible rfl
                rotate_left
                · simp only [Act.put, List.setIfInBounds_toArray, List.set_cons_zero, List.set_cons_succ, i64_w, i32_w]
                  rfl
                refine done_ (done_of HT_.out (by kernel_rfl)) ?_
                try go_wp2
                go_ret2
                exact ⟨_, by first | rfl | (simp [errW_none, errW_some] <;> rfl) | (simp only [← hji10]; first | rfl | (simp [errW_none, errW_some] <;> rfl)) | (simp [*, errW_none, errW_some] <;> rfl), by (with_reducible repeat (first | apply Kd.N_alloc | apply Kd.N_drewN | apply Kd.N_drew)); exact HO642.out, by repeat (first | (with_reducible first | exact HB.out | apply below_alloc | apply pw_below_drewN | apply below_drew1) | exact HB.out)⟩
              · rw [if_neg c13] at H
                exact absurd H (by simp)
            · rw [if_neg c12] at H
              exact absurd H (by simp)
          · rw [if_neg c11] at H
            exact absurd H (by simp)
        · rw [if_neg c9] at H
          exact absurd H (by simp)
      · rw [if_neg c8] at H
        exact absurd H (by simp)
    · rw [if_neg c7] at H
      exact absurd H (by simp)
  · rw [if_neg c5] at H
    have c5b0 : (t620 == 0) = false := beq_eq_false_iff_ne.mpr c5
    have c5b1 : (t620 != 0) = true := bne_iff_ne.mpr c5
    simp only [Option.some.injEq, Prod.mk.injEq] at H
    obtain ⟨rfl, rfl⟩ := H
    go_enter Try.func72, Try.ntmps72
    go_wp2_with (first | ((with_reducible refine gate_callee (f := 106) rfl ?_); refine goesL_ (some 13) rfl rfl Try.func106 (by kernel_rfl) rfl #[.int .i64 a0, .slice A1 l1.length c1, .int .i64 a2] rfl (by (try simp only [List.map_toArray, List.map_cons, List.map_nil]); first | done | rfl | (simp only [List.length_drop, List.length_take]; rfl)) ?_; (with_reducible refine (verditerref06_weighing.calls k a0 _ _ l1 a2 t620 _ ?side1 ?side2 A4.out).mono ?_); (case side1 => repeat (first | exact HR1.out | (with_reducible refine Kd.C_alloc ?_ _) | (with_reducible refine Kd.C_drewN ?_ _) | (with_reducible refine Kd.C_drew ?_))); (case side2 => exact HC1.out); rintro e w' ⟨rfl, ⟨nd, rfl⟩⟩; refine ⟨_, rfl, ?_⟩))
    go_ret2
    exact ⟨_, by first | rfl | (simp [errW_none, errW_some] <;> rfl) | (simp [*, errW_none, errW_some] <;> rfl), by first | exact Kd.S_nil _ _ _ _ _ | exact Kd.N_nil _ _ _ _ _ | exact Kd.V_nil _ _ _ _ _ | exact Kd.Q_nil _ _ _ _ _ | exact Kd.R_nil _ _ _ _ _, by repeat (first | (with_reducible first | exact HB.out | apply below_alloc | apply pw_below_drewN | apply below_drew1) | exact HB.out)⟩

end Go.Proofs.Ytdbeochifofdoaa.X
end

section
/-! Sides exchanged, a weighing left out: the document's answers, and how many answers there can be. -/
namespace Go.Proofs.Ytdbeochifofdoaa.X
open Go.RowKit Go.Proofs.YtdbeochifofdoaaW.PrintWords Go.Proofs.YtdbeochifofdoaaW.PrintLast
set_option linter.unusedVariables false
set_option linter.unusedSimpArgs false

theorem refCopy_l0 (l : List S53) (hl : l.length ≤ 50) (hs : ∀ y, y ∈ l → y.f0.length ≤ 50 ∧ y.f1.length ≤ 50) : ∀ (d k i : Nat) (acc : List S53), i ≤ l.length → l.length - i = d → acc.length = i → d < k → verditerref06_Copy.l0 k l acc i = some (acc ++ l.drop i)
  | 0, k + 1, i, acc, h1, h2, h3, h4 => by
    unfold verditerref06_Copy.l0
    rw [if_neg (by omega), List.drop_eq_nil_of_le (by omega), List.append_nil]
  | d + 1, k + 1, i, acc, h1, h2, h3, h4 => by
    unfold verditerref06_Copy.l0
    have hm := hs _ (mem_getD z53 l i (by omega))
    have ih := refCopy_l0 l hl hs d k (i + 1) (acc ++ [l.getD i z53]) (by omega) (by omega) (by simp [h3]) (by omega)
    rw [if_pos (by omega), Option.bind_some, if_pos (by omega), show rd_T53 l (i : Int) = l.getD i z53 from rfl, if_pos (by simp only [List.length_nil]; omega), Option.bind_some, if_pos (by simp only [List.length_nil]; omega), if_pos (by omega), wrs i (by omega), List.nil_append, List.nil_append,
      show (⟨(l.getD i z53).f0, (l.getD i z53).f1⟩ : S53) = l.getD i z53 from rfl, ih, dropD z53 l i (by omega)]
    simp
theorem refCopy_f (l : List S53) (hl : l.length ≤ 50) (hs : ∀ y, y ∈ l → y.f0.length ≤ 50 ∧ y.f1.length ≤ 50) (k : Nat) (hk : 50 < k) : verditerref06_Copy.f k l = some l := by
  unfold verditerref06_Copy.f
  exact refCopy_l0 l hl hs l.length k 0 [] (by omega) (by omega) rfl (by omega)
theorem refWeighing_f (lots : Int) (l : List S53) (hl : l.length ≤ 50) (hs : ∀ y, y ∈ l → y.f0.length ≤ 50 ∧ y.f1.length ≤ 50) (a : Int) (k : Nat) (hk : 800 ≤ k) : verditerref06_weighing.f k lots l a = some (nErr lots l a) := by
  unfold verditerref06_weighing.f nErr
  rw [refValidate_f lots l (by omega) hs k hk, Option.bind_some]
  by_cases hp : pErr lots l = 0
  · rw [if_pos hp, if_pos hp, rwithin_b, Option.bind_some, show wrap64 ((l.length : Int) - 1) = (l.length : Int) - 1 from wr_of (by omega) (by omega)]
    by_cases h : 0 ≤ a ∧ a < (l.length : Int)
    · rw [if_pos h, if_pos (by simp; omega)]
    · rw [if_neg h, if_neg (by simp; omega)]
  · rw [if_neg hp, if_neg hp]
theorem refMirror_f (lots : Int) (l : List S53) (hl : l.length ≤ 50) (hs : ∀ y, y ∈ l → y.f0.length ≤ 50 ∧ y.f1.length ≤ 50) (a : Int) (k : Nat) (hk : 800 ≤ k) :
    verditerref06_Mirror.f k lots l a = some (if nErr lots l a = 0 then (turnP l a.toNat, 0) else ([], nErr lots l a)) := by
  unfold verditerref06_Mirror.f
  rw [refWeighing_f lots l hl hs a k hk, Option.bind_some]
  by_cases h : nErr lots l a = 0
  · obtain ⟨_, h0, h1⟩ := nErr_ok h
    obtain ⟨n, rfl⟩ := Int.eq_ofNat_of_zero_le h0
    have hn : n < l.length := by omega
    rw [if_pos h, if_pos h, refCopy_f l hl hs k (by omega), Option.bind_some, if_pos h0, if_pos h1, Option.bind_some]
    have e1 : rd_T53 l (n : Int) = l.getD n z53 := rfl
    have e2 : ∀ x : S53, rd_T53 (l.set n x) (n : Int) = x := fun x => by
      show (l.set n x).getD n z53 = x
      simp [List.getD_eq_getElem?_getD, hn]
    rw [Int.toNat_natCast, e1, e2, List.set_set]
    rfl
  · rw [if_neg h, if_neg h]
theorem refWithout_f (lots : Int) (l : List S53) (hl : l.length ≤ 50) (hs : ∀ y, y ∈ l → y.f0.length ≤ 50 ∧ y.f1.length ≤ 50) (a : Int) (k : Nat) (hk : 800 ≤ k) :
    verditerref06_Without.f k lots l a = some (if nErr lots l a = 0 then (l.eraseIdx a.toNat, 0) else ([], nErr lots l a)) := by
  unfold verditerref06_Without.f
  rw [refWeighing_f lots l hl hs a k hk, Option.bind_some]
  by_cases h : nErr lots l a = 0
  · obtain ⟨_, h0, h1⟩ := nErr_ok h
    obtain ⟨n, rfl⟩ := Int.eq_ofNat_of_zero_le h0
    have hn : n < l.length := by omega
    rw [if_pos h, if_pos h, refCopy_f l hl hs k (by omega), Option.bind_some, Option.bind_some, if_pos h0, if_pos (by omega), Option.bind_some, Int.toNat_natCast, if_pos (by rw [List.length_take]; simp; omega), Option.bind_some, wrs n (by omega),
      if_pos (by omega), if_pos (by omega), Option.bind_some, Int.toNat_natCast, if_pos (by rw [List.length_append, List.length_take, List.length_drop]; simp; omega), List.nil_append, List.eraseIdx_eq_take_drop_succ]
  · rw [if_neg h, if_neg h]
theorem turn_ok {lots : Int} {l : List S53} (hp : pErr lots l = 0) (k : Nat) (hk : k < l.length) : pErr lots (turnP l k) = 0 := by
  have ok := pErr_ok hp
  refine ok_pErr ⟨ok.lo, ok.hi, by rw [turnP, List.length_set]; exact ok.few, fun x hx => ?_⟩
  rcases List.mem_or_eq_of_mem_set hx with h | rfl
  · exact ok.each x h
  · have := ok.each _ (mem_getD z53 l k hk)
    exact ⟨this.right, this.left, this.rset, this.lset, fun n h1 h2 => this.apart n h2 h1, this.even.symm⟩
theorem erase_ok {lots : Int} {l : List S53} (hp : pErr lots l = 0) (k : Nat) : pErr lots (l.eraseIdx k) = 0 := by
  have ok := pErr_ok hp
  exact ok_pErr ⟨ok.lo, ok.hi, Nat.le_trans (List.length_eraseIdx_le _ _) ok.few, fun x hx => ok.each x (List.mem_of_mem_eraseIdx hx)⟩
/-- Images are not more. -/
theorem put_images (h : List Int → List Int) {γ : Type} (f g : γ → List Int) : ∀ (cs : List γ) (ks ks' : List (List Int)), (∀ c, c ∈ cs → g c = h (f c)) → ks'.length ≤ ks.length → (∀ x, x ∈ ks → h x ∈ ks') →
    (cs.foldl (fun ks c => putL ks (g c)) ks').length ≤ (cs.foldl (fun ks c => putL ks (f c)) ks).length
  | [], _, _, _, h1, _ => h1
  | c :: cs, ks, ks', h0, h1, h2 => by
    rw [List.foldl_cons, List.foldl_cons]
    refine put_images h f g cs _ _ (fun c hc => h0 c (List.mem_cons_of_mem _ hc)) ?_ ?_
    · have e := h0 c List.mem_cons_self
      by_cases hm : f c ∈ ks
      · rw [show putL ks (f c) = ks from if_pos hm, show putL ks' (g c) = ks' from if_pos (by rw [e]; exact h2 _ hm)]
        exact h1
      · have := putL_len ks' (g c)
        rw [show putL ks (f c) = ks ++ [f c] from if_neg hm, List.length_append, List.length_singleton]
        omega
    · have e := h0 c List.mem_cons_self
      intro x hx
      have keep : ∀ y, y ∈ ks' → y ∈ putL ks' (g c) := fun y hy => by unfold putL; split; exact hy; exact List.mem_append_left _ hy
      have new : g c ∈ putL ks' (g c) := by unfold putL; split; assumption; simp
      have hx' : x ∈ ks ∨ x = f c := by
        unfold putL at hx
        split at hx
        · exact .inl hx
        · simpa using hx
      rcases hx' with hx' | rfl
      · exact keep _ (h2 _ hx')
      · rw [← e]; exact new
theorem found_images {lots : Int} {l l' : List S53} (h : List Int → List Int) (h0 : ∀ n w : Int, (w = 1 ∨ w = -1 ∨ w = 0 ∧ n = 0) → (0 ≤ n ∧ n < lots) → ansB l' n w = h (ansB l n w)) (hlo : 1 ≤ lots) : (foundR lots l').length ≤ (foundR lots l).length := by
  refine put_images h _ _ _ _ _ (fun c hc => ?_) (by simp) (fun x hx => ?_)
  · have h1 := casesL_mem hc
    exact h0 _ _ (by rcases cases_way hc with e | e <;> simp [e]) (by omega)
  · rw [List.mem_singleton.1 hx, h0 0 0 (by simp) (by omega)]
    simp
theorem erase_found {lots : Int} {l : List S53} (hp : pErr lots l = 0) (k : Nat) : (foundR lots (l.eraseIdx k)).length ≤ (foundR lots l).length := by
  refine found_images (fun v => v.eraseIdx k) (fun n w _ _ => ?_) (pErr_ok hp).lo
  rw [ans_map, ans_map, List.eraseIdx_eq_take_drop_succ, List.eraseIdx_eq_take_drop_succ, List.map_append, List.map_take, List.map_drop]
theorem mark_turn {lots : Int} {y : S53} (h : OkW lots y) (n : Int) : markOf n ⟨y.f1, y.f0⟩ = -markOf n y := by
  unfold markOf
  by_cases h0 : n ∈ y.f0
  · have h1 := h.apart n h0
    simp [h0, h1]
  · by_cases h1 : n ∈ y.f1 <;> simp [h0, h1]
theorem ans_turn {lots : Int} {l : List S53} (hp : pErr lots l = 0) (k : Nat) (hk : k < l.length) (n w : Int) (hw : w = 1 ∨ w = -1 ∨ w = 0 ∧ n = 0) : ansB (turnP l k) n w = (ansB l n w).set k (-((ansB l n w).getD k 0)) := by
  have hm := mark_turn ((pErr_ok hp).each _ (mem_getD z53 l k hk)) n
  rw [ans_get l n w k hk, ans_map, ans_map, turnP, List.map_set, hm]
  congr 1
  have hs := markOf_small n (l.getD k z53)
  rcases hw with rfl | rfl | ⟨rfl, _⟩
  · rw [wr_of (by omega) (by omega), wr_of (by omega) (by omega)]; omega
  · rw [wr_of (by omega) (by omega), wr_of (by omega) (by omega)]; omega
  · rw [wr_of (by omega) (by omega), wr_of (by omega) (by omega)]; omega
theorem turn_turn (l : List S53) (k : Nat) (hk : k < l.length) : turnP (turnP l k) k = l := by
  unfold turnP
  have e : (l.set k ⟨(l.getD k z53).f1, (l.getD k z53).f0⟩).getD k z53 = ⟨(l.getD k z53).f1, (l.getD k z53).f0⟩ := by simp [List.getD_eq_getElem?_getD, hk]
  rw [e, List.set_set, show (⟨(l.getD k z53).f0, (l.getD k z53).f1⟩ : S53) = l.getD k z53 from rfl]
  rw [show l.getD k z53 = l[k] by simp [List.getD_eq_getElem?_getD, List.getElem?_eq_getElem hk], List.set_getElem_self]
theorem turn_found {lots : Int} {l : List S53} (hp : pErr lots l = 0) (k : Nat) (hk : k < l.length) : (foundR lots (turnP l k)).length = (foundR lots l).length := by
  have lo := (pErr_ok hp).lo
  have h1 : (foundR lots (turnP l k)).length ≤ (foundR lots l).length := found_images (fun v => v.set k (-(v.getD k 0))) (fun n w hw _ => ans_turn hp k hk n w hw) lo
  have hk2 : k < (turnP l k).length := by rw [turnP, List.length_set]; exact hk
  have h2 : (foundR lots (turnP (turnP l k) k)).length ≤ (foundR lots (turnP l k)).length := found_images (fun v => v.set k (-(v.getD k 0))) (fun n w hw _ => ans_turn (turn_ok hp k hk) k hk2 n w hw) lo
  rw [turn_turn l k hk] at h2
  omega
end Go.Proofs.Ytdbeochifofdoaa.X
end

section
-- Written by a program of this session (wip/hook.py, which runs the kit's print.py with contracts proved by hand). Not trusted: Lean checks it.
namespace Go.Proofs.Ytdbeochifofdoaa.X
open Go.RowKit Go.Proofs.YtdbeochifofdoaaW.PrintWords Go.Proofs.YtdbeochifofdoaaW.PrintLast Go.Proofs.YtdbeochifofdoaaW.PrintMore
attribute [local go_sem] max2_int min2_int max_two min_two max_three min_three max_four min_four   -- for this text's walks alone
set_option linter.unusedVariables false
set_option linter.unusedSimpArgs false

/-! ### weigh_Most: function 23 -/
def weigh_Most.l0 : Nat → Int → Int → Option (Int × Int)
  | 0, _, _ => none
  | k + 1, x0, x5 => if x5 > 0 then ((weigh_search.f x5 x0).bind fun bt121 => (if bt121.2 = true then (some (x5, 0)) else (weigh_Most.l0 k x0 (wrap64 (x5 - 1))))) else (some (0, 0))
def weigh_Most.f (k : Nat) (a0 : Int) : Option (Int × Int) := (weigh_counted.f 1 a0).bind fun t120 => (if t120 = 0 then (weigh_Most.l0 k a0 13) else (some (0, t120)))
theorem weigh_Most.mono_l : ∀ k, (∀ y0 y1, LeO (weigh_Most.l0 k y0 y1) (weigh_Most.l0 (k + 1) y0 y1))
  | 0 => fun _ _ r h => by simp [weigh_Most.l0] at h
  | k + 1 => by
    have ih0 := weigh_Most.mono_l k
    · intro y0 y1
      unfold weigh_Most.l0
      repeat' first
      | (with_reducible exact ih0 _ _)
      | (with_reducible exact LeO.refl _)
      | (with_reducible exact LeO.none _)
      | (with_reducible refine LeO.ite ?_ ?_)
      | (with_reducible refine LeO.bind ?_ (fun _ => ?_))
      | exact ih0 _ _
      | exact LeO.none _
      | refine LeO.ite ?_ ?_
      | refine LeO.bind ?_ (fun _ => ?_)
theorem weigh_Most.mono : ∀ a0 k, LeO (weigh_Most.f k a0) (weigh_Most.f (k + 1) a0) := by
  intro a0 k
  have ih0 := weigh_Most.mono_l k
  unfold weigh_Most.f
  repeat' first
      | (with_reducible exact ih0 _ _)
      | (with_reducible exact LeO.refl _)
      | (with_reducible exact LeO.none _)
      | (with_reducible refine LeO.ite ?_ ?_)
      | (with_reducible refine LeO.bind ?_ (fun _ => ?_))
      | exact ih0 _ _
      | exact LeO.none _
      | refine LeO.ite ?_ ?_
      | refine LeO.bind ?_ (fun _ => ?_)
set_option maxHeartbeats 8000000 in
set_option maxRecDepth 100000 in
theorem weigh_Most.calls (k : Nat) (a0 : Int) (r1 : Int) (r2 : Int) (w : World) (h : weigh_Most.f k a0 = some (r1, r2)) :
    Calls Try.prog 23 #[.int .i64 a0] w fun e w' => e = .returned (.tuple #[.int .i64 r1, .int .i64 r2]) ∧ Below w.heap.size w w' := by
  have HB := Aside0.mk (Below.refl w.heap.size w)
  have H : ((weigh_counted.f 1 a0).bind fun t120 => (if t120 = 0 then (weigh_Most.l0 k a0 13) else (some (0, t120)))) = some (r1, r2) := h
  clear h
  replace H := Option.bind_eq_some_iff.mp H
  obtain ⟨t120, A20, H⟩ := H
  replace H : (if t120 = 0 then (weigh_Most.l0 k a0 13) else (some (0, t120))) = some (r1, r2) := H
  have A2 := Aside0.mk A20
  clear A20
  by_cases c3 : t120 = 0
  · rw [if_pos c3] at H
    have c3b0 : (t120 == 0) = true := beq_iff_eq.mpr c3
    have c3b1 : (t120 != 0) = false := bne_eq_false_iff_eq.mpr c3
    clear c3
    have H' := Aside0.mk H
    clear H
    go_enter Try.func23, Try.ntmps23
    go_wp2_with (first | ((with_reducible refine gate_callee (f := 49) rfl ?_); refine goesL_ (some 9) rfl rfl Try.func49 (by kernel_rfl) rfl #[.int .i64 1, .int .i64 a0] rfl (by (try simp only [List.map_toArray, List.map_cons, List.map_nil]); first | done | rfl | (simp only [List.length_drop, List.length_take]; rfl)) ?_; (with_reducible refine (weigh_counted.calls 1 a0 t120 _ A2.out).mono ?_); rintro e w' ⟨rfl, ⟨nd, rfl⟩⟩; refine ⟨_, rfl, ?_⟩))
    go_loopg [5] k (fun kq v5 w' => ∃ (x5_1 : Int), v5 = .int .i64 x5_1 ∧ Aside0 (weigh_Most.l0 kq a0 x5_1 = some (r1, r2)) ∧ Aside0 (kq ≤ k) ∧ Aside0 (Below w.heap.size w w'))
    case atStart => exact ⟨(13), (by first | rfl | (simp; done) | (simp [*]; done)), H', ⟨Nat.le_refl _⟩, ⟨by repeat (first | (with_reducible first | exact HB.out | apply below_alloc | apply pw_below_drewN | apply below_drew1) | exact HB.out)⟩⟩
    case round =>
      clear H'
      try clear c2
      try clear p2
      try clear c3
      try clear c3b0
      try clear c3b1
      obtain ⟨x5_1, rfl, HA, HK1, HB⟩ := hrel
      cases gk with
      | zero => exact absurd HA.out (by simp [weigh_Most.l0])
      | succ k1 =>
        have H := HA.out
        clear HA
        simp only [weigh_Most.l0] at H
        by_cases c4 : x5_1 > 0
        · rw [if_pos c4] at H
          have c4b0 : decide (0 < x5_1) = true := decide_eq_true c4
          clear c4
          replace H := Option.bind_eq_some_iff.mp H
          obtain ⟨⟨t121, t122⟩, A50, H⟩ := H
          replace H : (if t122 = true then (some (x5_1, 0)) else (weigh_Most.l0 k1 a0 (wrap64 (x5_1 - 1)))) = some (r1, r2) := H
          have A5 := Aside0.mk A50
          clear A50
          by_cases c6 : t122 = true
          · subst c6
            have H1 : (some (x5_1, 0)) = some (r1, r2) := by rw [if_pos rfl] at H; exact H
            clear H
            have H := H1
            clear H1
            simp only [Option.some.injEq, Prod.mk.injEq] at H
            obtain ⟨rfl, rfl⟩ := H
            go_wp2_with (first | ((with_reducible refine gate_callee (f := 50) rfl ?_); refine goesL_ (some 20) rfl rfl Try.func50 (by kernel_rfl) rfl #[.int .i64 x5_1, .int .i64 a0] rfl (by (try simp only [List.map_toArray, List.map_cons, List.map_nil]); first | done | rfl | (simp only [List.length_drop, List.length_take]; rfl)) ?_; (with_reducible refine (weigh_search.calls x5_1 a0 t121 true _ A5.out).mono ?_); rintro e w7 ⟨v123, rfl, ho0, hb⟩; refine ⟨_, rfl, ?_⟩; have n0_ := Aside0.mk (Kd.R_lower ho0 (below_size (by repeat (first | (with_reducible first | exact HB.out | apply below_alloc | apply pw_below_drewN | apply below_drew1) | exact HB.out)))); have n1_ := Aside0.mk (below_step (by repeat (first | (with_reducible first | exact HB.out | apply below_alloc | apply pw_below_drewN | apply below_drew1) | exact HB.out)) hb); clear HB; have HO124 := n0_; have HB := n1_; clear n0_ n1_; (try clear hb); (try clear hb2); (try clear hk); (try clear hi); (try clear ho0)))
            go_ret2
            exact ⟨by first | rfl | (simp [errW_none, errW_some] <;> rfl) | (simp [*, errW_none, errW_some] <;> rfl), by repeat (first | (with_reducible first | exact HB.out | apply below_alloc | apply pw_below_drewN | apply below_drew1) | exact HB.out)⟩
          · replace c6 := Bool.eq_false_iff.mpr c6
            subst c6
            have H1 : (weigh_Most.l0 k1 a0 (wrap64 (x5_1 - 1))) = some (r1, r2) := by rw [if_neg (show ¬ (false = true) by decide)] at H; exact H
            clear H
            have H := H1
            clear H1
            have H' := Aside0.mk H
            clear H
            go_wp2_with (first | ((with_reducible refine gate_callee (f := 50) rfl ?_); refine goesL_ (some 20) rfl rfl Try.func50 (by kernel_rfl) rfl #[.int .i64 x5_1, .int .i64 a0] rfl (by (try simp only [List.map_toArray, List.map_cons, List.map_nil]); first | done | rfl | (simp only [List.length_drop, List.length_take]; rfl)) ?_; (with_reducible refine (weigh_search.calls x5_1 a0 t121 false _ A5.out).mono ?_); rintro e w8 ⟨v123, rfl, ho0, hb⟩; refine ⟨_, rfl, ?_⟩; have n0_ := Aside0.mk (Kd.R_lower ho0 (below_size (by repeat (first | (with_reducible first | exact HB.out | apply below_alloc | apply pw_below_drewN | apply below_drew1) | exact HB.out)))); have n1_ := Aside0.mk (below_step (by repeat (first | (with_reducible first | exact HB.out | apply below_alloc | apply pw_below_drewN | apply below_drew1) | exact HB.out)) hb); clear HB; have HO124 := n0_; have HB := n1_; clear n0_ n1_; (try clear hb); (try clear hb2); (try clear hk); (try clear hi); (try clear ho0)))
            go_roundg k1
            case measure => have := HK1.out; omega
            case rel => exact ⟨(wrap64 (x5_1 - 1)), (by first | rfl | (simp; done) | (simp [*]; done)), H', ⟨by have := HK1.out; omega⟩, ⟨by repeat (first | (with_reducible first | exact HB.out | apply below_alloc | apply pw_below_drewN | apply below_drew1) | exact HB.out)⟩⟩
        · rw [if_neg c4] at H
          have c4b0 : decide (0 < x5_1) = false := decide_eq_false c4
          clear c4
          simp only [Option.some.injEq, Prod.mk.injEq] at H
          obtain ⟨rfl, rfl⟩ := H
          go_wp2
          go_ret2
          exact ⟨by first | rfl | (simp [errW_none, errW_some] <;> rfl) | (simp [*, errW_none, errW_some] <;> rfl), by repeat (first | (with_reducible first | exact HB.out | apply below_alloc | apply pw_below_drewN | apply below_drew1) | exact HB.out)⟩
  · rw [if_neg c3] at H
    have c3b0 : (t120 == 0) = false := beq_eq_false_iff_ne.mpr c3
    have c3b1 : (t120 != 0) = true := bne_iff_ne.mpr c3
    simp only [Option.some.injEq, Prod.mk.injEq] at H
    obtain ⟨rfl, rfl⟩ := H
    go_enter Try.func23, Try.ntmps23
    go_wp2_with (first | ((with_reducible refine gate_callee (f := 49) rfl ?_); refine goesL_ (some 9) rfl rfl Try.func49 (by kernel_rfl) rfl #[.int .i64 1, .int .i64 a0] rfl (by (try simp only [List.map_toArray, List.map_cons, List.map_nil]); first | done | rfl | (simp only [List.length_drop, List.length_take]; rfl)) ?_; (with_reducible refine (weigh_counted.calls 1 a0 t120 _ A2.out).mono ?_); rintro e w' ⟨rfl, ⟨nd, rfl⟩⟩; refine ⟨_, rfl, ?_⟩))
    go_ret2
    exact ⟨by first | rfl | (simp [errW_none, errW_some] <;> rfl) | (simp [*, errW_none, errW_some] <;> rfl), by repeat (first | (with_reducible first | exact HB.out | apply below_alloc | apply pw_below_drewN | apply below_drew1) | exact HB.out)⟩

end Go.Proofs.Ytdbeochifofdoaa.X
end
