/- Mirror exchanges the sides of a weighing, Without leaves a weighing out: for all plans and numbers.
Its conditions: none beyond the statement's own. Part 2 of 5 of the proof. -/
import Derived.Deep.RegionHeld3
import Derived.Handy
import Derived.WalkSpells
import Derived.Deep.CutBlock
import Derived.Laws.CopyOwn
import Derived.Deep.RegionLaw
import Derived.Test.YtdbeochifofdoaaM0
section
-- Written by a program of this session (wip/hook.py, which runs the kit's print.py with contracts proved by hand). Not trusted: Lean checks it.
namespace Go.Proofs.Ytdbeochifofdoaa.X
open Go.RowKit Go.Proofs.YtdbeochifofdoaaW.PrintWords Go.Proofs.YtdbeochifofdoaaW.PrintLast Go.Proofs.YtdbeochifofdoaaW.PrintMore
attribute [local go_sem] max2_int min2_int max_two min_two max_three min_three max_four min_four   -- for this text's walks alone
set_option linter.unusedVariables false
set_option linter.unusedSimpArgs false

/-! ### verditerref06_Validate: function 59 -/
mutual
def verditerref06_Validate.l0 : Nat → Int → List (S53) → Int → Option (Int)
  | 0, _, _, _ => none
  | k + 1, x0, x1, x5 => if x5 < (x1.length : Int) then (if 0 ≤ x5 then ((verditerref06_isSet.f k ((rd_T53 x1 x5).f0) x0).bind fun t186 => (if t186 = true then ((verditerref06_isSet.f k ((rd_T53 x1 x5).f1) x0).bind fun t188 => (verditerref06_Validate.j1 k x0 x1 x5 (!t188))) else (verditerref06_Validate.j1 k x0 x1 x5 true))) else (none)) else (some 0)
def verditerref06_Validate.j1 : Nat → Int → List (S53) → Int → Bool → Option (Int)
  | 0, _, _, _, _ => none
  | k + 1, x0, x1, x5, x36 => if x36 = true then (some 1) else (verditerref06_Validate.l1 k x0 x1 x5 0)
def verditerref06_Validate.l1 : Nat → Int → List (S53) → Int → Int → Option (Int)
  | 0, _, _, _, _ => none
  | k + 1, x0, x1, x5, x6 => if 0 ≤ x5 then (if x5 < (x1.length : Int) then (if x6 < (((rd_T53 x1 x5).f0).length : Int) then (if 0 ≤ x6 then ((verditerref06_has.f k ((rd_T53 x1 x5).f1) (rd ((rd_T53 x1 x5).f0) x6)).bind fun t193 => (if t193 = true then (some 6) else (verditerref06_Validate.l1 k x0 x1 x5 (wrap64 (x6 + 1))))) else (none)) else (if (((rd_T53 x1 x5).f0).length : Int) = (((rd_T53 x1 x5).f1).length : Int) then (verditerref06_Validate.l0 k x0 x1 (wrap64 (x5 + 1))) else (some 5))) else (none)) else (none)
end
def verditerref06_Validate.f (k : Nat) (a0 : Int) (l1 : List (S53)) : Option (Int) := (verditerref06_within.f a0 1 13).bind fun t184 => (if t184 = true then (if (l1.length : Int) > 3 then (some 3) else (verditerref06_Validate.l0 k a0 l1 0)) else (some 1))
set_option maxHeartbeats 8000000 in
set_option maxRecDepth 100000 in
theorem verditerref06_Validate.calls (k : Nat) (a0 : Int) (A1 : Option Addr) (c1 : Nat) (l1 : List (S53)) (r : Int) (w : World) (hr1 : Kd.C k53 w A1 l1.length l1) (hc1 : l1.length ≤ c1) (h : verditerref06_Validate.f k a0 l1 = some r) :
    Calls Try.prog 59 #[.int .i64 a0, .slice A1 l1.length c1] w fun e w' => e = .returned (.int .i64 r) ∧ Drawn0 w w' := by
  have HR1 := Aside0.mk hr1
  have HC1 := Aside0.mk hc1
  clear hr1 hc1
  have H : ((verditerref06_within.f a0 1 13).bind fun t184 => (if t184 = true then (if (l1.length : Int) > 3 then (some 3) else (verditerref06_Validate.l0 k a0 l1 0)) else (some 1))) = some r := h
  clear h
  replace H := Option.bind_eq_some_iff.mp H
  obtain ⟨t184, A30, H⟩ := H
  replace H : (if t184 = true then (if (l1.length : Int) > 3 then (some 3) else (verditerref06_Validate.l0 k a0 l1 0)) else (some 1)) = some r := H
  have A3 := Aside0.mk A30
  clear A30
  by_cases c4 : t184 = true
  · subst c4
    have H1 : (if (l1.length : Int) > 3 then (some 3) else (verditerref06_Validate.l0 k a0 l1 0)) = some r := by rw [if_pos rfl] at H; exact H
    clear H
    have H := H1
    clear H1
    by_cases c5 : (l1.length : Int) > 3
    · rw [if_pos c5] at H
      have c5b0 : decide (3 < (l1.length : Int)) = true := decide_eq_true c5
      have c5b1 : decide (3 < l1.length) = true := decide_eq_true (by omega)
      clear c5
      obtain rfl := Option.some.inj H
      go_enter Try.func59, Try.ntmps59
      go_wp2_with (first | (go_at_call 82; (with_reducible refine (verditerref06_within.calls a0 1 13 true _ A3.out).mono ?_); rintro e w' ⟨rfl, ⟨nd, rfl⟩⟩; (try first | exact ⟨rfl, _, World.drewN_drewN _ _ _⟩ | exact ⟨rfl, _, Eq.trans (World.drewN_drewN _ _ _) (congrArg (World.drewN _) (Nat.add_assoc _ _ _))⟩)))
      repeat (go_quiet (first | (go_at_call 82; (with_reducible refine (verditerref06_within.calls a0 1 13 true _ A3.out).mono ?_); rintro e w' ⟨rfl, ⟨nd, rfl⟩⟩; (try first | exact ⟨rfl, _, World.drewN_drewN _ _ _⟩ | exact ⟨rfl, _, Eq.trans (World.drewN_drewN _ _ _) (congrArg (World.drewN _) (Nat.add_assoc _ _ _))⟩))); try go_wp2_with (first | (go_at_call 82; (with_reducible refine (verditerref06_within.calls a0 1 13 true _ A3.out).mono ?_); rintro e w' ⟨rfl, ⟨nd, rfl⟩⟩; (try first | exact ⟨rfl, _, World.drewN_drewN _ _ _⟩ | exact ⟨rfl, _, Eq.trans (World.drewN_drewN _ _ _) (congrArg (World.drewN _) (Nat.add_assoc _ _ _))⟩))))
      go_ret
      exact ⟨by first | rfl | (simp; done) | (simp [*]; done), by repeat (first | exact Drawn0.refl _ | apply Drawn0.step)⟩
    · rw [if_neg c5] at H
      have c5b0 : decide (3 < (l1.length : Int)) = false := decide_eq_false c5
      have c5b1 : decide (3 < l1.length) = false := decide_eq_false (by omega)
      clear c5
      have H' := Aside0.mk H
      clear H
      go_enter Try.func59, Try.ntmps59
      go_wp2_with (first | (go_at_call 82; (with_reducible refine (verditerref06_within.calls a0 1 13 true _ A3.out).mono ?_); rintro e w' ⟨rfl, ⟨nd, rfl⟩⟩; (try first | exact ⟨rfl, _, World.drewN_drewN _ _ _⟩ | exact ⟨rfl, _, Eq.trans (World.drewN_drewN _ _ _) (congrArg (World.drewN _) (Nat.add_assoc _ _ _))⟩)))
      repeat (go_quiet (first | (go_at_call 82; (with_reducible refine (verditerref06_within.calls a0 1 13 true _ A3.out).mono ?_); rintro e w' ⟨rfl, ⟨nd, rfl⟩⟩; (try first | exact ⟨rfl, _, World.drewN_drewN _ _ _⟩ | exact ⟨rfl, _, Eq.trans (World.drewN_drewN _ _ _) (congrArg (World.drewN _) (Nat.add_assoc _ _ _))⟩))); try go_wp2_with (first | (go_at_call 82; (with_reducible refine (verditerref06_within.calls a0 1 13 true _ A3.out).mono ?_); rintro e w' ⟨rfl, ⟨nd, rfl⟩⟩; (try first | exact ⟨rfl, _, World.drewN_drewN _ _ _⟩ | exact ⟨rfl, _, Eq.trans (World.drewN_drewN _ _ _) (congrArg (World.drewN _) (Nat.add_assoc _ _ _))⟩))))
      go_loopg [5] k (fun kq v5 w' => ∃ (x5_1 : Int), v5 = .int .i64 x5_1 ∧ Aside0 (verditerref06_Validate.l0 kq a0 l1 x5_1 = some r) ∧ Aside0 (kq ≤ k) ∧ Drawn0 w w')
      case atStart => exact ⟨(0), (by first | rfl | (simp; done) | (simp [*]; done)), H', ⟨Nat.le_refl _⟩, by repeat (first | exact Drawn0.refl _ | apply Drawn0.step)⟩
      case round =>
        clear H'
        try clear c1
        try clear p2
        try clear c4
        try clear c5
        try clear c5b0
        try clear c5b1
        obtain ⟨x5_1, rfl, HA, HK1, ⟨m1, rfl⟩⟩ := hrel
        cases gk with
        | zero => exact absurd HA.out (by simp [verditerref06_Validate.l0])
        | succ k1 =>
          have H := HA.out
          clear HA
          simp only [verditerref06_Validate.l0] at H
          by_cases c6 : x5_1 < (l1.length : Int)
          · rw [if_pos c6] at H
            have c6b0 : decide (x5_1 < (l1.length : Int)) = true := decide_eq_true c6
            clear c6
            have HC7 := Aside0.mk H
            clear H
            go_upto_region 8 with (fail)
            repeat (go_quiet (fail); go_upto_region 8 with (fail))
            go_cut [36] (fun v36 wc => ∃ (kq : Nat) (x36_6 : Bool), v36 = .bool x36_6 ∧ Aside0 (verditerref06_Validate.j1 kq a0 l1 x5_1 x36_6 = some r) ∧ Aside0 (kq ≤ k1) ∧ Drawn0 w wc)
            case first =>
              have H := HC7.out
              clear HC7
              by_cases c8 : 0 ≤ x5_1
              · rw [if_pos c8] at H
                have c8b0 : decide (0 ≤ x5_1) = true := decide_eq_true c8
                clear c8
                (first | rw [c8b0] | (simp only [i64_w, i32_w]; rw [c8b0]) | skip)
                replace H := Option.bind_eq_some_iff.mp H
                obtain ⟨t186, A90, H⟩ := H
                replace H : (if t186 = true then ((verditerref06_isSet.f k1 ((rd_T53 l1 x5_1).f1) a0).bind fun t188 => (verditerref06_Validate.j1 k1 a0 l1 x5_1 (!t188))) else (verditerref06_Validate.j1 k1 a0 l1 x5_1 true)) = some r := H
                have A9 := Aside0.mk A90
                clear A90
                by_cases c10 : t186 = true
                · subst c10
                  have H1 : ((verditerref06_isSet.f k1 ((rd_T53 l1 x5_1).f1) a0).bind fun t188 => (verditerref06_Validate.j1 k1 a0 l1 x5_1 (!t188))) = some r := by rw [if_pos rfl] at H; exact H
                  clear H
                  have H := H1
                  clear H1
                  replace H := Option.bind_eq_some_iff.mp H
                  obtain ⟨t188, A110, H⟩ := H
                  replace H : (verditerref06_Validate.j1 k1 a0 l1 x5_1 (!t188)) = some r := H
                  have A11 := Aside0.mk A110
                  clear A110
                  have H' := Aside0.mk H
                  clear H
                  have p185 : 0 ≤ (x5_1 : Int) := of_decide_eq_true (by first | (with_reducible assumption) | assumption)
                  have q185 : x5_1 < (l1.length : Int) := of_decide_eq_true (by first | (with_reducible assumption) | assumption)
                  obtain ⟨ad185, A185_0, c185_0, A185_1, c185_1, e185, hx185_0, hx185_1, hl185_0, hi185_0, hl185_1, hi185_1⟩ := at_T53 HR1.out x5_1 p185 q185
                  cases e185
                  have HR185_0 := Aside0.mk hi185_0
                  have HC185_0 := Aside0.mk hl185_0
                  clear hi185_0 hl185_0
                  have HR185_1 := Aside0.mk hi185_1
                  have HC185_1 := Aside0.mk hl185_1
                  clear hi185_1 hl185_1
                  replace p185 := eq_true p185
                  replace q185 := eq_true q185
                  go_wp2_with (first | (go_at_call 100; (with_reducible refine (verditerref06_isSet.calls k1 _ _ ((rd_T53 l1 x5_1).f0) a0 true _ ?side1 ?side2 A9.out).mono ?_); (case side1 => repeat (first | exact HR185_0.out | (with_reducible refine Kd.C_alloc ?_ _) | (with_reducible refine Kd.C_drewN ?_ _) | (with_reducible refine Kd.C_drew ?_))); (case side2 => exact HC185_0.out); rintro e w' ⟨rfl, ⟨nd, rfl⟩⟩; (try first | exact ⟨rfl, _, World.drewN_drewN _ _ _⟩ | exact ⟨rfl, _, Eq.trans (World.drewN_drewN _ _ _) (congrArg (World.drewN _) (Nat.add_assoc _ _ _))⟩); have p187 : 0 ≤ (x5_1 : Int) := of_decide_eq_true (by first | (with_reducible assumption) | assumption); have q187 : x5_1 < (l1.length : Int) := of_decide_eq_true (by first | (with_reducible assumption) | assumption); obtain ⟨ad187, A187_0, c187_0, A187_1, c187_1, e187, hx187_0, hx187_1, hl187_0, hi187_0, hl187_1, hi187_1⟩ := at_T53 HR1.out x5_1 p187 q187; obtain rfl : ad185 = ad187 := (by injection e187); have HR187_0 := Aside0.mk hi187_0; have HC187_0 := Aside0.mk hl187_0; clear hi187_0 hl187_0; have HR187_1 := Aside0.mk hi187_1; have HC187_1 := Aside0.mk hl187_1; clear hi187_1 hl187_1; replace p187 := eq_true p187; replace q187 := eq_true q187; have ea_ := Option.some.inj (hx185_0.symm.trans hx187_0); injection ea_ with ea_ en_ ec_; subst ea_; subst ec_; clear en_; have ea_ := Option.some.inj (hx185_1.symm.trans hx187_1); injection ea_ with ea_ en_ ec_; subst ea_; subst ec_; clear en_) | (go_at_call 100; (with_reducible refine (verditerref06_isSet.calls k1 _ _ ((rd_T53 l1 x5_1).f1) a0 t188 _ ?side1 ?side2 A11.out).mono ?_); (case side1 => repeat (first | exact HR187_1.out | (with_reducible refine Kd.C_alloc ?_ _) | (with_reducible refine Kd.C_drewN ?_ _) | (with_reducible refine Kd.C_drew ?_))); (case side2 => exact HC187_1.out); rintro e w' ⟨rfl, ⟨nd, rfl⟩⟩; (try first | exact ⟨rfl, _, World.drewN_drewN _ _ _⟩ | exact ⟨rfl, _, Eq.trans (World.drewN_drewN _ _ _) (congrArg (World.drewN _) (Nat.add_assoc _ _ _))⟩)))
                  repeat (go_quiet (first | (go_at_call 100; (with_reducible refine (verditerref06_isSet.calls k1 _ _ ((rd_T53 l1 x5_1).f0) a0 true _ ?side1 ?side2 A9.out).mono ?_); (case side1 => repeat (first | exact HR185_0.out | (with_reducible refine Kd.C_alloc ?_ _) | (with_reducible refine Kd.C_drewN ?_ _) | (with_reducible refine Kd.C_drew ?_))); (case side2 => exact HC185_0.out); rintro e w' ⟨rfl, ⟨nd, rfl⟩⟩; (try first | exact ⟨rfl, _, World.drewN_drewN _ _ _⟩ | exact ⟨rfl, _, Eq.trans (World.drewN_drewN _ _ _) (congrArg (World.drewN _) (Nat.add_assoc _ _ _))⟩); have p187 : 0 ≤ (x5_1 : Int) := of_decide_eq_true (by first | (with_reducible assumption) | assumption); have q187 : x5_1 < (l1.length : Int) := of_decide_eq_true (by first | (with_reducible assumption) | assumption); obtain ⟨ad187, A187_0, c187_0, A187_1, c187_1, e187, hx187_0, hx187_1, hl187_0, hi187_0, hl187_1, hi187_1⟩ := at_T53 HR1.out x5_1 p187 q187; obtain rfl : ad185 = ad187 := (by injection e187); have HR187_0 := Aside0.mk hi187_0; have HC187_0 := Aside0.mk hl187_0; clear hi187_0 hl187_0; have HR187_1 := Aside0.mk hi187_1; have HC187_1 := Aside0.mk hl187_1; clear hi187_1 hl187_1; replace p187 := eq_true p187; replace q187 := eq_true q187; have ea_ := Option.some.inj (hx185_0.symm.trans hx187_0); injection ea_ with ea_ en_ ec_; subst ea_; subst ec_; clear en_; have ea_ := Option.some.inj (hx185_1.symm.trans hx187_1); injection ea_ with ea_ en_ ec_; subst ea_; subst ec_; clear en_) | (go_at_call 100; (with_reducible refine (verditerref06_isSet.calls k1 _ _ ((rd_T53 l1 x5_1).f1) a0 t188 _ ?side1 ?side2 A11.out).mono ?_); (case side1 => repeat (first | exact HR187_1.out | (with_reducible refine Kd.C_alloc ?_ _) | (with_reducible refine Kd.C_drewN ?_ _) | (with_reducible refine Kd.C_drew ?_))); (case side2 => exact HC187_1.out); rintro e w' ⟨rfl, ⟨nd, rfl⟩⟩; (try first | exact ⟨rfl, _, World.drewN_drewN _ _ _⟩ | exact ⟨rfl, _, Eq.trans (World.drewN_drewN _ _ _) (congrArg (World.drewN _) (Nat.add_assoc _ _ _))⟩))); try go_wp2_with (first | (go_at_call 100; (with_reducible refine (verditerref06_isSet.calls k1 _ _ ((rd_T53 l1 x5_1).f0) a0 true _ ?side1 ?side2 A9.out).mono ?_); (case side1 => repeat (first | exact HR185_0.out | (with_reducible refine Kd.C_alloc ?_ _) | (with_reducible refine Kd.C_drewN ?_ _) | (with_reducible refine Kd.C_drew ?_))); (case side2 => exact HC185_0.out); rintro e w' ⟨rfl, ⟨nd, rfl⟩⟩; (try first | exact ⟨rfl, _, World.drewN_drewN _ _ _⟩ | exact ⟨rfl, _, Eq.trans (World.drewN_drewN _ _ _) (congrArg (World.drewN _) (Nat.add_assoc _ _ _))⟩); have p187 : 0 ≤ (x5_1 : Int) := of_decide_eq_true (by first | (with_reducible assumption) | assumption); have q187 : x5_1 < (l1.length : Int) := of_decide_eq_true (by first | (with_reducible assumption) | assumption); obtain ⟨ad187, A187_0, c187_0, A187_1, c187_1, e187, hx187_0, hx187_1, hl187_0, hi187_0, hl187_1, hi187_1⟩ := at_T53 HR1.out x5_1 p187 q187; obtain rfl : ad185 = ad187 := (by injection e187); have HR187_0 := Aside0.mk hi187_0; have HC187_0 := Aside0.mk hl187_0; clear hi187_0 hl187_0; have HR187_1 := Aside0.mk hi187_1; have HC187_1 := Aside0.mk hl187_1; clear hi187_1 hl187_1; replace p187 := eq_true p187; replace q187 := eq_true q187; have ea_ := Option.some.inj (hx185_0.symm.trans hx187_0); injection ea_ with ea_ en_ ec_; subst ea_; subst ec_; clear en_; have ea_ := Option.some.inj (hx185_1.symm.trans hx187_1); injection ea_ with ea_ en_ ec_; subst ea_; subst ec_; clear en_) | (go_at_call 100; (with_reducible refine (verditerref06_isSet.calls k1 _ _ ((rd_T53 l1 x5_1).f1) a0 t188 _ ?side1 ?side2 A11.out).mono ?_); (case side1 => repeat (first | exact HR187_1.out | (with_reducible refine Kd.C_alloc ?_ _) | (with_reducible refine Kd.C_drewN ?_ _) | (with_reducible refine Kd.C_drew ?_))); (case side2 => exact HC187_1.out); rintro e w' ⟨rfl, ⟨nd, rfl⟩⟩; (try first | exact ⟨rfl, _, World.drewN_drewN _ _ _⟩ | exact ⟨rfl, _, Eq.trans (World.drewN_drewN _ _ _) (congrArg (World.drewN _) (Nat.add_assoc _ _ _))⟩))))
                  go_meet
                  case rel => exact ⟨_, (!t188), (by first | rfl | (simp; done) | (simp [*]; done)), H', ⟨by have := HK1.out; first | omega | exact Nat.le_refl _⟩, by repeat (first | exact Drawn0.refl _ | apply Drawn0.step)⟩
                · replace c10 := Bool.eq_false_iff.mpr c10
                  subst c10
                  have H1 : (verditerref06_Validate.j1 k1 a0 l1 x5_1 true) = some r := by rw [if_neg (show ¬ (false = true) by decide)] at H; exact H
                  clear H
                  have H := H1
                  clear H1
                  have H' := Aside0.mk H
                  clear H
                  have p185 : 0 ≤ (x5_1 : Int) := of_decide_eq_true (by first | (with_reducible assumption) | assumption)
                  have q185 : x5_1 < (l1.length : Int) := of_decide_eq_true (by first | (with_reducible assumption) | assumption)
                  obtain ⟨ad185, A185_0, c185_0, A185_1, c185_1, e185, hx185_0, hx185_1, hl185_0, hi185_0, hl185_1, hi185_1⟩ := at_T53 HR1.out x5_1 p185 q185
                  cases e185
                  have HR185_0 := Aside0.mk hi185_0
                  have HC185_0 := Aside0.mk hl185_0
                  clear hi185_0 hl185_0
                  have HR185_1 := Aside0.mk hi185_1
                  have HC185_1 := Aside0.mk hl185_1
                  clear hi185_1 hl185_1
                  replace p185 := eq_true p185
                  replace q185 := eq_true q185
                  go_wp2_with (first | (go_at_call 100; (with_reducible refine (verditerref06_isSet.calls k1 _ _ ((rd_T53 l1 x5_1).f0) a0 false _ ?side1 ?side2 A9.out).mono ?_); (case side1 => repeat (first | exact HR185_0.out | (with_reducible refine Kd.C_alloc ?_ _) | (with_reducible refine Kd.C_drewN ?_ _) | (with_reducible refine Kd.C_drew ?_))); (case side2 => exact HC185_0.out); rintro e w' ⟨rfl, ⟨nd, rfl⟩⟩; (try first | exact ⟨rfl, _, World.drewN_drewN _ _ _⟩ | exact ⟨rfl, _, Eq.trans (World.drewN_drewN _ _ _) (congrArg (World.drewN _) (Nat.add_assoc _ _ _))⟩)))
                  repeat (go_quiet (first | (go_at_call 100; (with_reducible refine (verditerref06_isSet.calls k1 _ _ ((rd_T53 l1 x5_1).f0) a0 false _ ?side1 ?side2 A9.out).mono ?_); (case side1 => repeat (first | exact HR185_0.out | (with_reducible refine Kd.C_alloc ?_ _) | (with_reducible refine Kd.C_drewN ?_ _) | (with_reducible refine Kd.C_drew ?_))); (case side2 => exact HC185_0.out); rintro e w' ⟨rfl, ⟨nd, rfl⟩⟩; (try first | exact ⟨rfl, _, World.drewN_drewN _ _ _⟩ | exact ⟨rfl, _, Eq.trans (World.drewN_drewN _ _ _) (congrArg (World.drewN _) (Nat.add_assoc _ _ _))⟩))); try go_wp2_with (first | (go_at_call 100; (with_reducible refine (verditerref06_isSet.calls k1 _ _ ((rd_T53 l1 x5_1).f0) a0 false _ ?side1 ?side2 A9.out).mono ?_); (case side1 => repeat (first | exact HR185_0.out | (with_reducible refine Kd.C_alloc ?_ _) | (with_reducible refine Kd.C_drewN ?_ _) | (with_reducible refine Kd.C_drew ?_))); (case side2 => exact HC185_0.out); rintro e w' ⟨rfl, ⟨nd, rfl⟩⟩; (try first | exact ⟨rfl, _, World.drewN_drewN _ _ _⟩ | exact ⟨rfl, _, Eq.trans (World.drewN_drewN _ _ _) (congrArg (World.drewN _) (Nat.add_assoc _ _ _))⟩))))
                  go_meet
                  case rel => exact ⟨_, (true), (by first | rfl | (simp; done) | (simp [*]; done)), H', ⟨by have := HK1.out; first | omega | exact Nat.le_refl _⟩, by repeat (first | exact Drawn0.refl _ | apply Drawn0.step)⟩
              · rw [if_neg c8] at H
                exact absurd H (by simp)
            case rest =>
              clear HC7
              try clear c1
              try clear p1
              try clear q1
              try clear hx1
              try clear p2
              try clear c4
              try clear c5
              try clear c5b0
              try clear c5b1
              try clear c6
              try clear c6b0
              try clear c8
              try clear c8b0
              try clear c10
              try clear hx185_0
              try clear hx185_1
              try clear hx187_0
              try clear hx187_1
              try clear p185
              try clear p187
              try clear p2
              try clear q185
              try clear q187
              obtain ⟨kq, x36_6, rfl, HA, HJ6, ⟨mc6, rfl⟩⟩ := hcut
              cases kq with
              | zero => exact absurd HA.out (by simp [verditerref06_Validate.j1])
              | succ kj6 =>
                have H := HA.out
                clear HA
                simp only [verditerref06_Validate.j1] at H
                by_cases c12 : x36_6 = true
                · subst c12
                  have H1 : (some 1) = some r := by rw [if_pos rfl] at H; exact H
                  clear H
                  have H := H1
                  clear H1
                  obtain rfl := Option.some.inj H
                  go_wp2
                  repeat (go_quiet (fail); try go_wp2)
                  go_ret
                  exact ⟨by first | rfl | (simp; done) | (simp [*]; done), by repeat (first | exact Drawn0.refl _ | apply Drawn0.step)⟩
                · replace c12 := Bool.eq_false_iff.mpr c12
                  subst c12
                  have H1 : (verditerref06_Validate.l1 kj6 a0 l1 x5_1 0) = some r := by rw [if_neg (show ¬ (false = true) by decide)] at H; exact H
                  clear H
                  have H := H1
                  clear H1
                  have H' := Aside0.mk H
                  clear H
                  go_wp2
                  repeat (go_quiet (fail); try go_wp2)
                  go_loopg [6] kj6 (fun kq v6 w' => ∃ (x6_3 : Int), v6 = .int .i64 x6_3 ∧ Aside0 (verditerref06_Validate.l1 kq a0 l1 x5_1 x6_3 = some r) ∧ Aside0 (kq ≤ kj6) ∧ Drawn0 w w')
                  case atStart => exact ⟨(0), (by first | rfl | (simp; done) | (simp [*]; done)), H', ⟨Nat.le_refl _⟩, by repeat (first | exact Drawn0.refl _ | apply Drawn0.step)⟩
                  case round =>
                    clear H'
                    try clear c1
                    try clear p1
                    try clear q1
                    try clear hx1
                    try clear p2
                    try clear c4
                    try clear c5
                    try clear c5b0
                    try clear c5b1
                    try clear c6
                    try clear c6b0
                    try clear c8
                    try clear c8b0
                    try clear c10
                    try clear c12
                    try clear hx185_0
                    try clear hx185_1
                    try clear hx187_0
                    try clear hx187_1
                    try clear p1
                    try clear p185
                    try clear p187
                    try clear p2
                    try clear q1
                    try clear q185
                    try clear q187
                    obtain ⟨x6_3, rfl, HA, HK3, ⟨m3, rfl⟩⟩ := hrel
                    cases gk with
                    | zero => exact absurd HA.out (by simp [verditerref06_Validate.l1])
                    | succ k3 =>
                      have H := HA.out
                      clear HA
                      simp only [verditerref06_Validate.l1] at H
                      by_cases c13 : 0 ≤ x5_1
                      · rw [if_pos c13] at H
                        have c13b0 : decide (0 ≤ x5_1) = true := decide_eq_true c13
                        clear c13
                        by_cases c14 : x5_1 < (l1.length : Int)
                        · rw [if_pos c14] at H
                          have c14b0 : decide (x5_1 < (l1.length : Int)) = true := decide_eq_true c14
                          clear c14
                          by_cases c15 : x6_3 < (((rd_T53 l1 x5_1).f0).length : Int)
                          · rw [if_pos c15] at H
                            have c15b0 : decide (x6_3 < (((rd_T53 l1 x5_1).f0).length : Int)) = true := decide_eq_true c15
                            clear c15
                            by_cases c16 : 0 ≤ x6_3
                            · rw [if_pos c16] at H
                              have c16b0 : decide (0 ≤ x6_3) = true := decide_eq_true c16
                              clear c16
                              replace H := Option.bind_eq_some_iff.mp H
                              obtain ⟨t193, A170, H⟩ := H
                              replace H : (if t193 = true then (some 6) else (verditerref06_Validate.l1 k3 a0 l1 x5_1 (wrap64 (x6_3 + 1)))) = some r := H
                              have A17 := Aside0.mk A170
                              clear A170
                              by_cases c18 : t193 = true
                              · subst c18
                                have H1 : (some 6) = some r := by rw [if_pos rfl] at H; exact H
                                clear H
                                have H := H1
                                clear H1
                                obtain rfl := Option.some.inj H
                                have p189 : 0 ≤ (x5_1 : Int) := of_decide_eq_true (by first | (with_reducible assumption) | assumption)
                                have q189 : x5_1 < (l1.length : Int) := of_decide_eq_true (by first | (with_reducible assumption) | assumption)
                                obtain ⟨ad189, A189_0, c189_0, A189_1, c189_1, e189, hx189_0, hx189_1, hl189_0, hi189_0, hl189_1, hi189_1⟩ := at_T53 HR1.out x5_1 p189 q189
                                cases e189
                                have HR189_0 := Aside0.mk hi189_0
                                have HC189_0 := Aside0.mk hl189_0
                                clear hi189_0 hl189_0
                                have HR189_1 := Aside0.mk hi189_1
                                have HC189_1 := Aside0.mk hl189_1
                                clear hi189_1 hl189_1
                                replace p189 := eq_true p189
                                replace q189 := eq_true q189
                                have p190 : 0 ≤ (x5_1 : Int) := of_decide_eq_true (by first | (with_reducible assumption) | assumption)
                                have q190 : x5_1 < (l1.length : Int) := of_decide_eq_true (by first | (with_reducible assumption) | assumption)
                                obtain ⟨ad190, A190_0, c190_0, A190_1, c190_1, e190, hx190_0, hx190_1, hl190_0, hi190_0, hl190_1, hi190_1⟩ := at_T53 HR1.out x5_1 p190 q190
                                obtain rfl : ad189 = ad190 := (by injection e190)
                                have HR190_0 := Aside0.mk hi190_0
                                have HC190_0 := Aside0.mk hl190_0
                                clear hi190_0 hl190_0
                                have HR190_1 := Aside0.mk hi190_1
                                have HC190_1 := Aside0.mk hl190_1
                                clear hi190_1 hl190_1
                                replace p190 := eq_true p190
                                replace q190 := eq_true q190
                                have ea_ := Option.some.inj (hx189_0.symm.trans hx190_0)
                                injection ea_ with ea_ en_ ec_
                                subst ea_
                                subst ec_
                                clear en_
                                have ea_ := Option.some.inj (hx189_1.symm.trans hx190_1)
                                injection ea_ with ea_ en_ ec_
                                subst ea_
                                subst ec_
                                clear en_
                                have p191 : 0 ≤ (x5_1 : Int) := of_decide_eq_true (by first | (with_reducible assumption) | assumption)
                                have q191 : x5_1 < (l1.length : Int) := of_decide_eq_true (by first | (with_reducible assumption) | assumption)
                                obtain ⟨ad191, A191_0, c191_0, A191_1, c191_1, e191, hx191_0, hx191_1, hl191_0, hi191_0, hl191_1, hi191_1⟩ := at_T53 HR1.out x5_1 p191 q191
                                obtain rfl : ad189 = ad191 := (by injection e191)
                                have HR191_0 := Aside0.mk hi191_0
                                have HC191_0 := Aside0.mk hl191_0
                                clear hi191_0 hl191_0
                                have HR191_1 := Aside0.mk hi191_1
                                have HC191_1 := Aside0.mk hl191_1
                                clear hi191_1 hl191_1
                                replace p191 := eq_true p191
                                replace q191 := eq_true q191
                                have ea_ := Option.some.inj (hx189_0.symm.trans hx191_0)
                                injection ea_ with ea_ en_ ec_
                                subst ea_
                                subst ec_
                                clear en_
                                have ea_ := Option.some.inj (hx189_1.symm.trans hx191_1)
                                injection ea_ with ea_ en_ ec_
                                subst ea_
                                subst ec_
                                clear en_
                                have p192 : 0 ≤ (x6_3 : Int) := of_decide_eq_true (by first | (with_reducible assumption) | assumption)
                                have q192 : x6_3 < (((rd_T53 l1 x5_1).f0).length : Int) := of_decide_eq_true (by first | (with_reducible assumption) | assumption)
                                obtain ⟨ad192, e192, hx192_0⟩ := Kd.at_int HR191_0.out x6_3 p192 q192
                                cases e192
                                replace p192 := eq_true p192
                                replace q192 := eq_true q192
                                go_wp2_with (first | (go_at_call 101; (with_reducible refine (verditerref06_has.calls k3 _ _ ((rd_T53 l1 x5_1).f1) (rd ((rd_T53 l1 x5_1).f0) x6_3) true _ ?side1 ?side2 A17.out).mono ?_); (case side1 => repeat (first | exact HR190_1.out | (with_reducible refine Kd.C_alloc ?_ _) | (with_reducible refine Kd.C_drewN ?_ _) | (with_reducible refine Kd.C_drew ?_))); (case side2 => exact HC190_1.out); rintro e w' ⟨rfl, ⟨nd, rfl⟩⟩; (try first | exact ⟨rfl, _, World.drewN_drewN _ _ _⟩ | exact ⟨rfl, _, Eq.trans (World.drewN_drewN _ _ _) (congrArg (World.drewN _) (Nat.add_assoc _ _ _))⟩)))
                                repeat (go_quiet (first | (go_at_call 101; (with_reducible refine (verditerref06_has.calls k3 _ _ ((rd_T53 l1 x5_1).f1) (rd ((rd_T53 l1 x5_1).f0) x6_3) true _ ?side1 ?side2 A17.out).mono ?_); (case side1 => repeat (first | exact HR190_1.out | (with_reducible refine Kd.C_alloc ?_ _) | (with_reducible refine Kd.C_drewN ?_ _) | (with_reducible refine Kd.C_drew ?_))); (case side2 => exact HC190_1.out); rintro e w' ⟨rfl, ⟨nd, rfl⟩⟩; (try first | exact ⟨rfl, _, World.drewN_drewN _ _ _⟩ | exact ⟨rfl, _, Eq.trans (World.drewN_drewN _ _ _) (congrArg (World.drewN _) (Nat.add_assoc _ _ _))⟩))); try go_wp2_with (first | (go_at_call 101; (with_reducible refine (verditerref06_has.calls k3 _ _ ((rd_T53 l1 x5_1).f1) (rd ((rd_T53 l1 x5_1).f0) x6_3) true _ ?side1 ?side2 A17.out).mono ?_); (case side1 => repeat (first | exact HR190_1.out | (with_reducible refine Kd.C_alloc ?_ _) | (with_reducible refine Kd.C_drewN ?_ _) | (with_reducible refine Kd.C_drew ?_))); (case side2 => exact HC190_1.out); rintro e w' ⟨rfl, ⟨nd, rfl⟩⟩; (try first | exact ⟨rfl, _, World.drewN_drewN _ _ _⟩ | exact ⟨rfl, _, Eq.trans (World.drewN_drewN _ _ _) (congrArg (World.drewN _) (Nat.add_assoc _ _ _))⟩))))
                                go_ret
                                exact ⟨by first | rfl | (simp; done) | (simp [*]; done), by repeat (first | exact Drawn0.refl _ | apply Drawn0.step)⟩
                              · replace c18 := Bool.eq_false_iff.mpr c18
                                subst c18
                                have H1 : (verditerref06_Validate.l1 k3 a0 l1 x5_1 (wrap64 (x6_3 + 1))) = some r := by rw [if_neg (show ¬ (false = true) by decide)] at H; exact H
                                clear H
                                have H := H1
                                clear H1
                                have H' := Aside0.mk H
                                clear H
                                have p189 : 0 ≤ (x5_1 : Int) := of_decide_eq_true (by first | (with_reducible assumption) | assumption)
                                have q189 : x5_1 < (l1.length : Int) := of_decide_eq_true (by first | (with_reducible assumption) | assumption)
                                obtain ⟨ad189, A189_0, c189_0, A189_1, c189_1, e189, hx189_0, hx189_1, hl189_0, hi189_0, hl189_1, hi189_1⟩ := at_T53 HR1.out x5_1 p189 q189
                                cases e189
                                have HR189_0 := Aside0.mk hi189_0
                                have HC189_0 := Aside0.mk hl189_0
                                clear hi189_0 hl189_0
                                have HR189_1 := Aside0.mk hi189_1
                                have HC189_1 := Aside0.mk hl189_1
                                clear hi189_1 hl189_1
                                replace p189 := eq_true p189
                                replace q189 := eq_true q189
                                have p190 : 0 ≤ (x5_1 : Int) := of_decide_eq_true (by first | (with_reducible assumption) | assumption)
                                have q190 : x5_1 < (l1.length : Int) := of_decide_eq_true (by first | (with_reducible assumption) | assumption)
                                obtain ⟨ad190, A190_0, c190_0, A190_1, c190_1, e190, hx190_0, hx190_1, hl190_0, hi190_0, hl190_1, hi190_1⟩ := at_T53 HR1.out x5_1 p190 q190
                                obtain rfl : ad189 = ad190 := (by injection e190)
                                have HR190_0 := Aside0.mk hi190_0
                                have HC190_0 := Aside0.mk hl190_0
                                clear hi190_0 hl190_0
                                have HR190_1 := Aside0.mk hi190_1
                                have HC190_1 := Aside0.mk hl190_1
                                clear hi190_1 hl190_1
                                replace p190 := eq_true p190
                                replace q190 := eq_true q190
                                have ea_ := Option.some.inj (hx189_0.symm.trans hx190_0)
                                injection ea_ with ea_ en_ ec_
                                subst ea_
                                subst ec_
                                clear en_
                                have ea_ := Option.some.inj (hx189_1.symm.trans hx190_1)
                                injection ea_ with ea_ en_ ec_
                                subst ea_
                                subst ec_
                                clear en_
                                have p191 : 0 ≤ (x5_1 : Int) := of_decide_eq_true (by first | (with_reducible assumption) | assumption)
                                have q191 : x5_1 < (l1.length : Int) := of_decide_eq_true (by first | (with_reducible assumption) | assumption)
                                obtain ⟨ad191, A191_0, c191_0, A191_1, c191_1, e191, hx191_0, hx191_1, hl191_0, hi191_0, hl191_1, hi191_1⟩ := at_T53 HR1.out x5_1 p191 q191
                                obtain rfl : ad189 = ad191 := (by injection e191)
                                have HR191_0 := Aside0.mk hi191_0
                                have HC191_0 := Aside0.mk hl191_0
                                clear hi191_0 hl191_0
                                have HR191_1 := Aside0.mk hi191_1
                                have HC191_1 := Aside0.mk hl191_1
                                clear hi191_1 hl191_1
                                replace p191 := eq_true p191
                                replace q191 := eq_true q191
                                have ea_ := Option.some.inj (hx189_0.symm.trans hx191_0)
                                injection ea_ with ea_ en_ ec_
                                subst ea_
                                subst ec_
                                clear en_
                                have ea_ := Option.some.inj (hx189_1.symm.trans hx191_1)
                                injection ea_ with ea_ en_ ec_
                                subst ea_
                                subst ec_
                                clear en_
                                have p192 : 0 ≤ (x6_3 : Int) := of_decide_eq_true (by first | (with_reducible assumption) | assumption)
                                have q192 : x6_3 < (((rd_T53 l1 x5_1).f0).length : Int) := of_decide_eq_true (by first | (with_reducible assumption) | assumption)
                                obtain ⟨ad192, e192, hx192_0⟩ := Kd.at_int HR191_0.out x6_3 p192 q192
                                cases e192
                                replace p192 := eq_true p192
                                replace q192 := eq_true q192
                                go_wp2_with (first | (go_at_call 101; (with_reducible refine (verditerref06_has.calls k3 _ _ ((rd_T53 l1 x5_1).f1) (rd ((rd_T53 l1 x5_1).f0) x6_3) false _ ?side1 ?side2 A17.out).mono ?_); (case side1 => repeat (first | exact HR190_1.out | (with_reducible refine Kd.C_alloc ?_ _) | (with_reducible refine Kd.C_drewN ?_ _) | (with_reducible refine Kd.C_drew ?_))); (case side2 => exact HC190_1.out); rintro e w' ⟨rfl, ⟨nd, rfl⟩⟩; (try first | exact ⟨rfl, _, World.drewN_drewN _ _ _⟩ | exact ⟨rfl, _, Eq.trans (World.drewN_drewN _ _ _) (congrArg (World.drewN _) (Nat.add_assoc _ _ _))⟩)))
                                repeat (go_quiet (first | (go_at_call 101; (with_reducible refine (verditerref06_has.calls k3 _ _ ((rd_T53 l1 x5_1).f1) (rd ((rd_T53 l1 x5_1).f0) x6_3) false _ ?side1 ?side2 A17.out).mono ?_); (case side1 => repeat (first | exact HR190_1.out | (with_reducible refine Kd.C_alloc ?_ _) | (with_reducible refine Kd.C_drewN ?_ _) | (with_reducible refine Kd.C_drew ?_))); (case side2 => exact HC190_1.out); rintro e w' ⟨rfl, ⟨nd, rfl⟩⟩; (try first | exact ⟨rfl, _, World.drewN_drewN _ _ _⟩ | exact ⟨rfl, _, Eq.trans (World.drewN_drewN _ _ _) (congrArg (World.drewN _) (Nat.add_assoc _ _ _))⟩))); try go_wp2_with (first | (go_at_call 101; (with_reducible refine (verditerref06_has.calls k3 _ _ ((rd_T53 l1 x5_1).f1) (rd ((rd_T53 l1 x5_1).f0) x6_3) false _ ?side1 ?side2 A17.out).mono ?_); (case side1 => repeat (first | exact HR190_1.out | (with_reducible refine Kd.C_alloc ?_ _) | (with_reducible refine Kd.C_drewN ?_ _) | (with_reducible refine Kd.C_drew ?_))); (case side2 => exact HC190_1.out); rintro e w' ⟨rfl, ⟨nd, rfl⟩⟩; (try first | exact ⟨rfl, _, World.drewN_drewN _ _ _⟩ | exact ⟨rfl, _, Eq.trans (World.drewN_drewN _ _ _) (congrArg (World.drewN _) (Nat.add_assoc _ _ _))⟩))))
                                go_roundg k3
                                case measure => have := HK1.out; have := HJ6.out; have := HK3.out; omega
                                case rel => exact ⟨(wrap64 (x6_3 + 1)), (by first | rfl | (simp; done) | (simp [*]; done)), H', ⟨by have := HK1.out; have := HJ6.out; have := HK3.out; omega⟩, by repeat (first | exact Drawn0.refl _ | apply Drawn0.step)⟩
                            · rw [if_neg c16] at H
                              exact absurd H (by simp)
                          · rw [if_neg c15] at H
                            have c15b0 : decide (x6_3 < (((rd_T53 l1 x5_1).f0).length : Int)) = false := decide_eq_false c15
                            clear c15
                            by_cases c19 : (((rd_T53 l1 x5_1).f0).length : Int) = (((rd_T53 l1 x5_1).f1).length : Int)
                            · rw [if_pos c19] at H
                              have c19b0 : ((((rd_T53 l1 x5_1).f0).length : Int) == (((rd_T53 l1 x5_1).f1).length : Int)) = true := beq_iff_eq.mpr c19
                              have c19b1 : ((((rd_T53 l1 x5_1).f0).length : Int) != (((rd_T53 l1 x5_1).f1).length : Int)) = false := bne_eq_false_iff_eq.mpr c19
                              have c19b2 : (((rd_T53 l1 x5_1).f0).length == ((rd_T53 l1 x5_1).f1).length) = true := by first | simpa using c19 | (simp at c19 ⊢; omega)
                              clear c19
                              have H' := Aside0.mk H
                              clear H
                              have p189 : 0 ≤ (x5_1 : Int) := of_decide_eq_true (by first | (with_reducible assumption) | assumption)
                              have q189 : x5_1 < (l1.length : Int) := of_decide_eq_true (by first | (with_reducible assumption) | assumption)
                              obtain ⟨ad189, A189_0, c189_0, A189_1, c189_1, e189, hx189_0, hx189_1, hl189_0, hi189_0, hl189_1, hi189_1⟩ := at_T53 HR1.out x5_1 p189 q189
                              cases e189
                              have HR189_0 := Aside0.mk hi189_0
                              have HC189_0 := Aside0.mk hl189_0
                              clear hi189_0 hl189_0
                              have HR189_1 := Aside0.mk hi189_1
                              have HC189_1 := Aside0.mk hl189_1
                              clear hi189_1 hl189_1
                              replace p189 := eq_true p189
                              replace q189 := eq_true q189
                              have p194 : 0 ≤ (x5_1 : Int) := of_decide_eq_true (by first | (with_reducible assumption) | assumption)
                              have q194 : x5_1 < (l1.length : Int) := of_decide_eq_true (by first | (with_reducible assumption) | assumption)
                              obtain ⟨ad194, A194_0, c194_0, A194_1, c194_1, e194, hx194_0, hx194_1, hl194_0, hi194_0, hl194_1, hi194_1⟩ := at_T53 HR1.out x5_1 p194 q194
                              obtain rfl : ad189 = ad194 := (by injection e194)
                              have HR194_0 := Aside0.mk hi194_0
                              have HC194_0 := Aside0.mk hl194_0
                              clear hi194_0 hl194_0
                              have HR194_1 := Aside0.mk hi194_1
                              have HC194_1 := Aside0.mk hl194_1
                              clear hi194_1 hl194_1
                              replace p194 := eq_true p194
                              replace q194 := eq_true q194
                              have ea_ := Option.some.inj (hx189_0.symm.trans hx194_0)
                              injection ea_ with ea_ en_ ec_
                              subst ea_
                              subst ec_
                              clear en_
                              have ea_ := Option.some.inj (hx189_1.symm.trans hx194_1)
                              injection ea_ with ea_ en_ ec_
                              subst ea_
                              subst ec_
                              clear en_
                              have p195 : 0 ≤ (x5_1 : Int) := of_decide_eq_true (by first | (with_reducible assumption) | assumption)
                              have q195 : x5_1 < (l1.length : Int) := of_decide_eq_true (by first | (with_reducible assumption) | assumption)
                              obtain ⟨ad195, A195_0, c195_0, A195_1, c195_1, e195, hx195_0, hx195_1, hl195_0, hi195_0, hl195_1, hi195_1⟩ := at_T53 HR1.out x5_1 p195 q195
                              obtain rfl : ad189 = ad195 := (by injection e195)
                              have HR195_0 := Aside0.mk hi195_0
                              have HC195_0 := Aside0.mk hl195_0
                              clear hi195_0 hl195_0
                              have HR195_1 := Aside0.mk hi195_1
                              have HC195_1 := Aside0.mk hl195_1
                              clear hi195_1 hl195_1
                              replace p195 := eq_true p195
                              replace q195 := eq_true q195
                              have ea_ := Option.some.inj (hx189_0.symm.trans hx195_0)
                              injection ea_ with ea_ en_ ec_
                              subst ea_
                              subst ec_
                              clear en_
                              have ea_ := Option.some.inj (hx189_1.symm.trans hx195_1)
                              injection ea_ with ea_ en_ ec_
                              subst ea_
                              subst ec_
                              clear en_
                              go_wp2
                              repeat (go_quiet (fail); try go_wp2)
                              go_roundg k3
                              case measure => have := HK1.out; have := HJ6.out; have := HK3.out; omega
                              case rel => exact ⟨(wrap64 (x5_1 + 1)), (by first | rfl | (simp; done) | (simp [*]; done)), H', ⟨by have := HK1.out; have := HJ6.out; have := HK3.out; omega⟩, by repeat (first | exact Drawn0.refl _ | apply Drawn0.step)⟩
                            · rw [if_neg c19] at H
                              have c19b0 : ((((rd_T53 l1 x5_1).f0).length : Int) == (((rd_T53 l1 x5_1).f1).length : Int)) = false := beq_eq_false_iff_ne.mpr c19
                              have c19b1 : ((((rd_T53 l1 x5_1).f0).length : Int) != (((rd_T53 l1 x5_1).f1).length : Int)) = true := bne_iff_ne.mpr c19
                              have c19b2 : (((rd_T53 l1 x5_1).f0).length == ((rd_T53 l1 x5_1).f1).length) = false := by first | simpa using c19 | (simp at c19 ⊢; omega)
                              obtain rfl := Option.some.inj H
                              have p189 : 0 ≤ (x5_1 : Int) := of_decide_eq_true (by first | (with_reducible assumption) | assumption)
                              have q189 : x5_1 < (l1.length : Int) := of_decide_eq_true (by first | (with_reducible assumption) | assumption)
                              obtain ⟨ad189, A189_0, c189_0, A189_1, c189_1, e189, hx189_0, hx189_1, hl189_0, hi189_0, hl189_1, hi189_1⟩ := at_T53 HR1.out x5_1 p189 q189
                              cases e189
                              have HR189_0 := Aside0.mk hi189_0
                              have HC189_0 := Aside0.mk hl189_0
                              clear hi189_0 hl189_0
                              have HR189_1 := Aside0.mk hi189_1
                              have HC189_1 := Aside0.mk hl189_1
                              clear hi189_1 hl189_1
                              replace p189 := eq_true p189
                              replace q189 := eq_true q189
                              have p194 : 0 ≤ (x5_1 : Int) := of_decide_eq_true (by first | (with_reducible assumption) | assumption)
                              have q194 : x5_1 < (l1.length : Int) := of_decide_eq_true (by first | (with_reducible assumption) | assumption)
                              obtain ⟨ad194, A194_0, c194_0, A194_1, c194_1, e194, hx194_0, hx194_1, hl194_0, hi194_0, hl194_1, hi194_1⟩ := at_T53 HR1.out x5_1 p194 q194
                              obtain rfl : ad189 = ad194 := (by injection e194)
                              have HR194_0 := Aside0.mk hi194_0
                              have HC194_0 := Aside0.mk hl194_0
                              clear hi194_0 hl194_0
                              have HR194_1 := Aside0.mk hi194_1
                              have HC194_1 := Aside0.mk hl194_1
                              clear hi194_1 hl194_1
                              replace p194 := eq_true p194
                              replace q194 := eq_true q194
                              have ea_ := Option.some.inj (hx189_0.symm.trans hx194_0)
                              injection ea_ with ea_ en_ ec_
                              subst ea_
                              subst ec_
                              clear en_
                              have ea_ := Option.some.inj (hx189_1.symm.trans hx194_1)
                              injection ea_ with ea_ en_ ec_
                              subst ea_
                              subst ec_
                              clear en_
                              have p195 : 0 ≤ (x5_1 : Int) := of_decide_eq_true (by first | (with_reducible assumption) | assumption)
                              have q195 : x5_1 < (l1.length : Int) := of_decide_eq_true (by first | (with_reducible assumption) | assumption)
                              obtain ⟨ad195, A195_0, c195_0, A195_1, c195_1, e195, hx195_0, hx195_1, hl195_0, hi195_0, hl195_1, hi195_1⟩ := at_T53 HR1.out x5_1 p195 q195
                              obtain rfl : ad189 = ad195 := (by injection e195)
                              have HR195_0 := Aside0.mk hi195_0
                              have HC195_0 := Aside0.mk hl195_0
                              clear hi195_0 hl195_0
                              have HR195_1 := Aside0.mk hi195_1
                              have HC195_1 := Aside0.mk hl195_1
                              clear hi195_1 hl195_1
                              replace p195 := eq_true p195
                              replace q195 := eq_true q195
                              have ea_ := Option.some.inj (hx189_0.symm.trans hx195_0)
                              injection ea_ with ea_ en_ ec_
                              subst ea_
                              subst ec_
                              clear en_
                              have ea_ := Option.some.inj (hx189_1.symm.trans hx195_1)
                              injection ea_ with ea_ en_ ec_
                              subst ea_
                              subst ec_
                              clear en_
                              go_wp2
                              repeat (go_quiet (fail); try go_wp2)
                              go_ret
                              exact ⟨by first | rfl | (simp; done) | (simp [*]; done), by repeat (first | exact Drawn0.refl _ | apply Drawn0.step)⟩
                        · rw [if_neg c14] at H
                          exact absurd H (by simp)
                      · rw [if_neg c13] at H
                        exact absurd H (by simp)
          · rw [if_neg c6] at H
            have c6b0 : decide (x5_1 < (l1.length : Int)) = false := decide_eq_false c6
            clear c6
            obtain rfl := Option.some.inj H
            go_wp2
            repeat (go_quiet (fail); try go_wp2)
            go_ret
            exact ⟨by first | rfl | (simp; done) | (simp [*]; done), by repeat (first | exact Drawn0.refl _ | apply Drawn0.step)⟩
  · replace c4 := Bool.eq_false_iff.mpr c4
    subst c4
    have H1 : (some 1) = some r := by rw [if_neg (show ¬ (false = true) by decide)] at H; exact H
    clear H
    have H := H1
    clear H1
    obtain rfl := Option.some.inj H
    go_enter Try.func59, Try.ntmps59
    go_wp2_with (first | (go_at_call 82; (with_reducible refine (verditerref06_within.calls a0 1 13 false _ A3.out).mono ?_); rintro e w' ⟨rfl, ⟨nd, rfl⟩⟩; (try first | exact ⟨rfl, _, World.drewN_drewN _ _ _⟩ | exact ⟨rfl, _, Eq.trans (World.drewN_drewN _ _ _) (congrArg (World.drewN _) (Nat.add_assoc _ _ _))⟩)))
    repeat (go_quiet (first | (go_at_call 82; (with_reducible refine (verditerref06_within.calls a0 1 13 false _ A3.out).mono ?_); rintro e w' ⟨rfl, ⟨nd, rfl⟩⟩; (try first | exact ⟨rfl, _, World.drewN_drewN _ _ _⟩ | exact ⟨rfl, _, Eq.trans (World.drewN_drewN _ _ _) (congrArg (World.drewN _) (Nat.add_assoc _ _ _))⟩))); try go_wp2_with (first | (go_at_call 82; (with_reducible refine (verditerref06_within.calls a0 1 13 false _ A3.out).mono ?_); rintro e w' ⟨rfl, ⟨nd, rfl⟩⟩; (try first | exact ⟨rfl, _, World.drewN_drewN _ _ _⟩ | exact ⟨rfl, _, Eq.trans (World.drewN_drewN _ _ _) (congrArg (World.drewN _) (Nat.add_assoc _ _ _))⟩))))
    go_ret
    exact ⟨by first | rfl | (simp; done) | (simp [*]; done), by repeat (first | exact Drawn0.refl _ | apply Drawn0.step)⟩

end Go.Proofs.Ytdbeochifofdoaa.X
end

section
/-! The document's Validate is the program's. -/
namespace Go.Proofs.Ytdbeochifofdoaa.X
open Go.RowKit Go.Proofs.YtdbeochifofdoaaW.PrintWords Go.Proofs.YtdbeochifofdoaaW.PrintLast
set_option linter.unusedVariables false
set_option linter.unusedSimpArgs false

theorem val_l1 (lots : Int) (l : List S53) (i : Nat) (hi : i < l.length) (hm : l.length < 9223372036854775807) (hs : ∀ y, y ∈ l → y.f0.length ≤ 50 ∧ y.f1.length ≤ 50) (K : Nat) (r : Int)
    (hc : ∀ k, K ≤ k → verditerref06_Validate.l0 k lots l ((i + 1 : Nat) : Int) = some r) :
    ∀ (d j k : Nat), j ≤ (l.getD i z53).f0.length → (l.getD i z53).f0.length - j = d → K + d + 60 ≤ k →
      verditerref06_Validate.l1 k lots l i j = some (if ((l.getD i z53).f0.drop j).any (fun n => (l.getD i z53).f1.contains n) = true then 6 else if (l.getD i z53).f0.length = (l.getD i z53).f1.length then r else 5)
  | 0, j, k + 1, h1, h2, h3 => by
    unfold verditerref06_Validate.l1
    rw [if_pos (by omega), if_pos (by omega), show rd_T53 l (i : Int) = l.getD i z53 from rfl, if_neg (by omega), List.drop_eq_nil_of_le (by omega), wrs i (by omega), hc k (by omega)]
    by_cases he : (l.getD i z53).f0.length = (l.getD i z53).f1.length
    · rw [if_pos (by omega), List.any_nil, if_neg (by simp), if_pos he]
    · rw [if_neg (by omega), List.any_nil, if_neg (by simp), if_neg he]
  | d + 1, j, k + 1, h1, h2, h3 => by
    have hb := hs _ (mem_getD z53 l i hi)
    unfold verditerref06_Validate.l1
    have ih := val_l1 lots l i hi hm hs K r hc d (j + 1) k (by omega) (by omega) (by omega)
    rw [if_pos (by omega), if_pos (by omega), show rd_T53 l (i : Int) = l.getD i z53 from rfl, if_pos (by omega), if_pos (by omega), rd_nat, has_f _ _ k (by omega) (by omega), wrs j (by omega), ih, dropD 0 (l.getD i z53).f0 j (by omega), List.any_cons, Option.bind_some]
    cases hq : (l.getD i z53).f1.contains ((l.getD i z53).f0.getD j 0) with
    | true => rw [if_pos rfl, Bool.true_or, if_pos rfl]
    | false => rw [if_neg (by simp), Bool.false_or]
theorem val_l0 (lots : Int) (hl : 1 ≤ lots ∧ lots ≤ 13) (l : List S53) (hm : l.length < 9223372036854775807) (hs : ∀ y, y ∈ l → y.f0.length ≤ 50 ∧ y.f1.length ≤ 50) :
    ∀ (d i k : Nat), i ≤ l.length → l.length - i = d → 200 * (d + 1) ≤ k → verditerref06_Validate.l0 k lots l i = some (vErr lots (l.drop i))
  | 0, i, k + 1, h1, h2, h3 => by
    unfold verditerref06_Validate.l0
    rw [if_neg (by omega), List.drop_eq_nil_of_le (by omega)]
    rfl
  | d + 1, i, k + 2, h1, h2, h3 => by
    have hb := hs _ (mem_getD z53 l i (by omega))
    have hv : vErr lots (l.drop i) = if wErr lots (l.getD i z53) = 0 then vErr lots (l.drop (i + 1)) else wErr lots (l.getD i z53) := by rw [dropD z53 l i (by omega)]; rfl
    have hc : ∀ k, 200 * (d + 1) ≤ k → verditerref06_Validate.l0 k lots l ((i + 1 : Nat) : Int) = some (vErr lots (l.drop (i + 1))) := fun k hk => val_l0 lots hl l hm hs d (i + 1) k (by omega) (by omega) hk
    have h1' := val_l1 lots l i (by omega) hm hs (200 * (d + 1)) _ hc (l.getD i z53).f0.length 0 k (by omega) (by omega) (by omega)
    have hj : ∀ b, verditerref06_Validate.j1 (k + 1) lots l i b = if b = true then some 1 else verditerref06_Validate.l1 k lots l i 0 := fun b => by unfold verditerref06_Validate.j1; rfl
    unfold verditerref06_Validate.l0
    rw [if_pos (by omega), if_pos (by omega), show rd_T53 l (i : Int) = l.getD i z53 from rfl]
    simp only [verditerref06_isSet.f, if_pos hl, Option.bind_some, hj]
    rw [show ((0 : Nat) : Int) = 0 from rfl] at h1'
    rw [h1', hv]
    unfold wErr
    cases isSetB lots (l.getD i z53).f0 <;> cases isSetB lots (l.getD i z53).f1 <;> simp <;> (split <;> simp_all)
theorem refValidate_f (lots : Int) (l : List S53) (hm : l.length < 9223372036854775807) (hs : ∀ y, y ∈ l → y.f0.length ≤ 50 ∧ y.f1.length ≤ 50) (k : Nat) (hk : 800 ≤ k) : verditerref06_Validate.f k lots l = some (pErr lots l) := by
  unfold verditerref06_Validate.f pErr
  rw [rwithin_b, Option.bind_some]
  by_cases hl : 1 ≤ lots ∧ lots ≤ 13
  · have hb : (decide (1 ≤ lots) && decide (lots ≤ 13)) = true := by simp [hl]
    rw [if_pos hb, if_pos hl]
    by_cases h3 : 3 < l.length
    · rw [if_pos (by omega), if_pos h3]
    · rw [if_neg (by omega), if_neg h3]
      exact val_l0 lots hl l hm hs l.length 0 k (by omega) (by omega) (by omega)
  · have hb : ¬ (decide (1 ≤ lots) && decide (lots ≤ 13)) = true := by simpa using hl
    rw [if_neg hb, if_neg hl]
end Go.Proofs.Ytdbeochifofdoaa.X
end

section
/-! Long; the document's tells. -/
namespace Go.Proofs.Ytdbeochifofdoaa.X
open Go.RowKit Go.Proofs.YtdbeochifofdoaaW.PrintWords Go.Proofs.YtdbeochifofdoaaW.PrintLast
set_option linter.unusedVariables false
set_option linter.unusedSimpArgs false

/-- Has a weighing a long list? -/
def longW (y : S53) : Bool := decide (50 < y.f0.length) || decide (50 < y.f1.length)
def longB (l : List S53) : Bool := decide (50 < l.length) || l.any longW
theorem long_l0 (l : List S53) (hm : l.length < 9223372036854775807) : ∀ (d k i : Nat), i ≤ l.length → l.length - i = d → d < k → verditerlaw06_Long.l0 k l i = some ((l.drop i).any longW)
  | 0, k + 1, i, h1, h2, _ => by
    unfold verditerlaw06_Long.l0
    rw [if_neg (by omega), List.drop_eq_nil_of_le (by omega)]
    rfl
  | d + 1, k + 1, i, h1, h2, h3 => by
    unfold verditerlaw06_Long.l0
    rw [if_pos (by omega), if_pos (by omega), show rd_T53 l (i : Int) = l.getD i z53 from rfl, dropD z53 l i (by omega), List.any_cons, wrs i (by omega)]
    have ih := long_l0 l hm d k (i + 1) (by omega) (by omega) (by omega)
    generalize l.getD i z53 = y
    unfold longW
    by_cases ha : 50 < y.f0.length
    · rw [if_pos (by omega), decide_eq_true ha]; rfl
    · rw [if_neg (by omega), decide_eq_false ha]
      by_cases hb : 50 < y.f1.length
      · rw [if_pos (by omega), decide_eq_true hb]; rfl
      · rw [if_neg (by omega), decide_eq_false hb, ih]; rfl
theorem long_f (l : List S53) (hm : l.length < 9223372036854775807) (k : Nat) (hk : 51 < k) : verditerlaw06_Long.f k l = some (longB l) := by
  unfold verditerlaw06_Long.f longB
  by_cases h : 50 < l.length
  · rw [if_pos (by omega), decide_eq_true h]; rfl
  · rw [if_neg (by omega), decide_eq_false h]
    exact (long_l0 l hm l.length k 0 (by omega) (by omega) (by omega)).trans (by simp)
theorem long_not {l : List S53} (h : longB l = false) : l.length ≤ 50 ∧ ∀ y, y ∈ l → y.f0.length ≤ 50 ∧ y.f1.length ≤ 50 := by
  unfold longB at h
  rw [Bool.or_eq_false_iff] at h
  refine ⟨by simpa using h.1, fun y hy => ?_⟩
  have := (List.any_eq_false.mp h.2) y hy
  unfold longW at this
  simpa using this

end Go.Proofs.Ytdbeochifofdoaa.X
end

section
-- Written by a program of this session (wip/hook.py, which runs the kit's print.py with contracts proved by hand). Not trusted: Lean checks it.
namespace Go.Proofs.Ytdbeochifofdoaa.X
open Go.RowKit Go.Proofs.YtdbeochifofdoaaW.PrintWords Go.Proofs.YtdbeochifofdoaaW.PrintLast Go.Proofs.YtdbeochifofdoaaW.PrintMore
attribute [local go_sem] max2_int min2_int max_two min_two max_three min_three max_four min_four   -- for this text's walks alone
set_option linter.unusedVariables false
set_option linter.unusedSimpArgs false

theorem eqA70 (d : Nat) (w : World) (x0 y0 x1 y1 x2 y2 : Int) :
    (Op.equalIn (d + 2) 70 (.agg #[.int .i64 x0, .int .i64 x1, .int .i64 x2]) (.agg #[.int .i64 y0, .int .i64 y1, .int .i64 y2])).run Try.prog w = .ok (x0 == y0 && (x1 == y1 && (x2 == y2))) w := by
  rw [Op.equalIn]
  simp only [Sem.run_bind, run_underlying Try.underlying70, Result.andThen_ok]
  go_simp
  rw [show List.range' 0 3 = [0, 1, 2] from rfl]
  simp only [List.forIn_cons, List.forIn_nil]
  by_cases h0 : x0 = y0
  rotate_left
  · go_simp
  subst h0
  by_cases h1 : x1 = y1
  rotate_left
  · go_simp
  subst h1
  by_cases h2 : x2 = y2
  rotate_left
  · go_simp
  subst h2
  go_simp
end Go.Proofs.Ytdbeochifofdoaa.X
end

section
/-! weigh.bad. -/
namespace Go.Proofs.Ytdbeochifofdoaa.X
open Go.RowKit Go.Proofs.YtdbeochifofdoaaW.PrintWords Go.Proofs.YtdbeochifofdoaaW.PrintLast Go.Proofs.YtdbeochifofdoaaW.PrintMore
set_option linter.unusedVariables false
set_option linter.unusedSimpArgs false
attribute [local go_sem high] eqA70

/-- Is o the mark m times way? -/
def eqTim (o m : S70) (way : Int) : Bool := o.f0 == wrap64 (m.f0 * way) && (o.f1 == wrap64 (m.f1 * way) && o.f2 == wrap64 (m.f2 * way))
def isZ (m : S70) : Bool := m.f0 == 0 && (m.f1 == 0 && m.f2 == 0)
/-- The first lot, from j on, whose mark is the mark m of the lot i, or the opposite one. -/
def badJ (m : S70) (i : Int) : List S70 → Int → Option (Int × Int × Int × Int)
  | [], _ => none
  | o :: os, j => if eqTim o m 1 = true then some (j, 1, i, 1) else if eqTim o m (-1) = true then some (j, 1, i, -1) else badJ m i os (j + 1)
def badI (L : List S70) : List S70 → Nat → Option (Int × Int × Int × Int)
  | [], _ => none
  | m :: ms, i => if isZ m = true then some (i, 1, i, 1) else match badJ m i (L.take i) 0 with | some r => some r | none => badI L ms (i + 1)
def badOut : Option (Int × Int × Int × Int) → Int × Int × Int × Int × Bool
  | some (a, b, c, d) => (a, b, c, d, true)
  | none => (0, 0, 0, 0, false)
def weigh_bad.f (a0 : Int) (l1 : List S53) : Option (Int × Int × Int × Int × Bool) := if pErr a0 l1 = 0 then some (badOut (badI (marksL a0 l1) (marksL a0 l1) 0)) else none

/-- Two pairs of numbers stored, each into a block of its own. -/
theorem two_put {W : World} {g4 g5 : Nat} (h4 : W.heap[g4]? = some (.cells #[.int .i64 0, .int .i64 0] 35 (0, 0))) (h5 : W.heap[g5]? = some (.cells #[.int .i64 0, .int .i64 0] 35 (0, 0))) (hne : g4 ≠ g5) (a b c d : Int) :
    ((((W.setCell ⟨g4, 0, none⟩ (.int .i64 a)).setCell ⟨g4, 1, none⟩ (.int .i64 b)).setCell ⟨g5, 0, none⟩ (.int .i64 c)).setCell ⟨g5, 1, none⟩ (.int .i64 d)).heap[g4]? = some (.cells #[.int .i64 a, .int .i64 b] 35 (0, 0)) ∧
    ((((W.setCell ⟨g4, 0, none⟩ (.int .i64 a)).setCell ⟨g4, 1, none⟩ (.int .i64 b)).setCell ⟨g5, 0, none⟩ (.int .i64 c)).setCell ⟨g5, 1, none⟩ (.int .i64 d)).heap[g5]? = some (.cells #[.int .i64 c, .int .i64 d] 35 (0, 0)) := by
  constructor
  · refine blk_far ?_ hne _
    refine blk_far ?_ hne _
    exact blk_set (blk_set h4 0 _) 1 _
  · refine blk_set (cs := #[.int .i64 c, .int .i64 0]) ?_ 1 _
    refine blk_set (cs := #[.int .i64 0, .int .i64 0]) ?_ 0 _
    refine blk_far ?_ (Ne.symm hne) _
    exact blk_far h5 (Ne.symm hne) _
theorem two_below {w W : World} {g4 g5 : Nat} (h : Below w.heap.size w W) (h4 : w.heap.size ≤ g4) (h5 : w.heap.size ≤ g5) (a b c d : Value) :
    Below w.heap.size w ((((W.setCell ⟨g4, 0, none⟩ a).setCell ⟨g4, 1, none⟩ b).setCell ⟨g5, 0, none⟩ c).setCell ⟨g5, 1, none⟩ d) :=
  below_set (below_set (below_set (below_set h h4) h4) h5) h5
/-- times, and what two marks in memory hold behind it. -/
theorem times_six (a b c k t0 t1 t2 : Int) (ht : weigh_mark_times.f a b c k = some (t0, t1, t2)) (W : World) (p q : Nat) (x0 x1 x2 y0 y1 y2 : Value)
    (hx0 : W.cell? ⟨p, 0, none⟩ = some x0) (hx1 : W.cell? ⟨p, 1, none⟩ = some x1) (hx2 : W.cell? ⟨p, 2, none⟩ = some x2) (hy0 : W.cell? ⟨q, 0, none⟩ = some y0) (hy1 : W.cell? ⟨q, 1, none⟩ = some y1) (hy2 : W.cell? ⟨q, 2, none⟩ = some y2) :
    Calls Try.prog 94 #[.agg #[.int .i64 a, .int .i64 b, .int .i64 c], .int .i64 k] W fun e w' => e = .returned (.agg #[.int .i64 t0, .int .i64 t1, .int .i64 t2]) ∧ Below W.heap.size W w' ∧
      w'.cell? ⟨p, 0, none⟩ = some x0 ∧ w'.cell? ⟨p, 1, none⟩ = some x1 ∧ w'.cell? ⟨p, 2, none⟩ = some x2 ∧ w'.cell? ⟨q, 0, none⟩ = some y0 ∧ w'.cell? ⟨q, 1, none⟩ = some y1 ∧ w'.cell? ⟨q, 2, none⟩ = some y2 := by
  refine (weigh_mark_times.calls a b c k _ _ _ W ht).mono ?_
  rintro e w' ⟨rfl, hb⟩
  exact ⟨rfl, hb, (hb.cell (World.block_lt_of_cell? W _ hx0)).trans hx0, (hb.cell (World.block_lt_of_cell? W _ hx1)).trans hx1, (hb.cell (World.block_lt_of_cell? W _ hx2)).trans hx2, (hb.cell (World.block_lt_of_cell? W _ hy0)).trans hy0, (hb.cell (World.block_lt_of_cell? W _ hy1)).trans hy1, (hb.cell (World.block_lt_of_cell? W _ hy2)).trans hy2⟩

theorem marksL_len (lots : Int) (l : List S53) : (marksL lots l).length = lots.toNat := by simp [marksL, rowsOf]

set_option maxHeartbeats 4000000 in
set_option maxRecDepth 100000 in
theorem weigh_bad.calls (a0 : Int) (A1 : Option Addr) (c1 : Nat) (l1 : List S53) (r1 r2 r3 r4 : Int) (r5 : Bool) (w : World) (hr1 : Kd.C k53 w A1 l1.length l1) (hc1 : l1.length ≤ c1) (h : weigh_bad.f a0 l1 = some (r1, r2, r3, r4, r5)) :
    Calls Try.prog 77 #[.int .i64 a0, .slice A1 l1.length c1] w fun e w' => e = .returned (.tuple #[.agg #[.int .i64 r1, .int .i64 r2], .agg #[.int .i64 r3, .int .i64 r4], .bool r5]) ∧ Below w.heap.size w w' := by
  unfold weigh_bad.f at h
  by_cases hp : pErr a0 l1 = 0
  rotate_left
  · rw [if_neg hp] at h; cases h
  rw [if_pos hp] at h
  have OK := Aside0.mk (pErr_ok hp)
  have hmf : weigh_marks.f a0 l1 = some (marksL a0 l1) := by unfold weigh_marks.f; rw [if_pos hp]
  have hlen : (marksL a0 l1).length ≤ 13 := by rw [marksL_len]; have := OK.out.hi; omega
  generalize hL : marksL a0 l1 = L at *
  have HQ := Aside0.mk (Option.some.inj h)
  have HR := Aside0.mk hr1
  have HC := Aside0.mk hc1
  have HMF := Aside0.mk hmf
  clear h hp hr1 hc1 hmf hL
  go_enter Try.func77, Try.ntmps77
  go_wp2_with fail
  refine (weigh_marks.calls a0 A1 c1 l1 L _ (Kd.C_alloc (Kd.C_alloc HR.out _) _) HC.out HMF.out).mono ?_
  rintro e w1 ⟨v, rfl, hO, hb⟩
  obtain ⟨A, c, rfl⟩ := Kd.R_slice hO
  obtain ⟨_, hLc, hC⟩ := Kd.R_reads' hO
  have hK4 := blk_below (blk_alloc (blk_new w (.cells #[.int .i64 0, .int .i64 0] 35)) (.cells #[.int .i64 0, .int .i64 0] 35)) hb
  have hK5 := blk_below (blk_new (w.alloc (.cells #[.int .i64 0, .int .i64 0] 35)) (.cells #[.int .i64 0, .int .i64 0] 35)) hb
  rw [show (w.alloc (.cells #[.int .i64 0, .int .i64 0] 35)).heap.size = w.heap.size + 1 from by simp] at hK5
  have K4 := Aside0.mk hK4
  have K5 := Aside0.mk hK5
  have BW := Aside0.mk ((below_alloc (below_alloc (Below.refl _ w) (.cells #[.int .i64 0, .int .i64 0] 35)) (.cells #[.int .i64 0, .int .i64 0] 35)).trans (hb.mono (by simp; omega)))
  have HL := Aside0.mk hC
  have S5 := Aside0.mk (blk_lt hK5)
  clear hK4 hK5 hO hC hb
  go_wp2
  go_loopg [19] L.length (fun gg s wr => ∃ i : Nat, i ≤ L.length ∧ L.length - i ≤ gg ∧ s = .int .i64 i ∧ Aside0 (Below w1.heap.size w1 wr) ∧ Aside0 (badI L (L.drop i) i = badI L L 0))
  case atStart => exact ⟨0, Nat.zero_le _, by omega, rfl, ⟨Below.refl _ _⟩, ⟨by simp⟩⟩
  case round =>
    obtain ⟨i, hi, hg, rfl, BR, AI⟩ := hrel
    by_cases hil : i < L.length
    · have hilz : (i : Int) < (L.length : Int) := by omega
      obtain ⟨ad, e1, hx0, hx1, hx2⟩ := at_T70 HL.out i (by omega) hilz
      cases e1
      replace hx0 := (BR.out.cell (World.block_lt_of_cell? w1 _ hx0)).trans hx0
      replace hx1 := (BR.out.cell (World.block_lt_of_cell? w1 _ hx1)).trans hx1
      replace hx2 := (BR.out.cell (World.block_lt_of_cell? w1 _ hx2)).trans hx2
      simp only [Int.toNat_natCast] at hx0 hx1 hx2
      rw [show rd_T70 L (i : Int) = L.getD i z70 from rfl] at hx0 hx1 hx2
      have Bi : Aside0 (L.drop i = L.getD i z70 :: L.drop (i + 1)) := ⟨dropD _ L i hil⟩
      generalize L.getD i z70 = m at *
      have hic : (i : Int) ≤ (c : Int) := by omega
      have k4 := blk_below K4.out BR.out
      have k5 := blk_below K5.out BR.out
      have szr : w.heap.size + 1 < wr.heap.size := blk_lt k5
      have szr0 : w.heap.size < wr.heap.size := by omega
      have c40 := blk_cell k4 0
      have c41 := blk_cell k4 1
      have c50 := blk_cell k5 0
      have c51 := blk_cell k5 1
      simp only [List.getElem?_toArray, List.getElem?_cons_zero, List.getElem?_cons_succ] at c40 c41 c50 c51
      have f40 := blk_frozen k4 0
      have f41 := blk_frozen k4 1
      have f50 := blk_frozen k5 0
      have f51 := blk_frozen k5 1
      have k4' := Aside0.mk k4
      have k5' := Aside0.mk k5
      clear k4 k5
      cases hz : (m.f0 == 0 && (m.f1 == 0 && m.f2 == 0)) with
      | true =>
        have HZ := Aside0.mk (show isZ m = true from hz)
        go_wp2
        have hfin : ((i : Int), (1 : Int), (i : Int), (1 : Int), true) = (r1, r2, r3, r4, r5) := by
          have h := HQ.out
          rw [← AI.out, Bi.out, badI, if_pos HZ.out] at h
          exact h
        simp only [Prod.mk.injEq] at hfin
        obtain ⟨rfl, rfl, rfl, rfl, rfl⟩ := hfin
        refine bodyPost_ret (results_list (rs := [.cell 4 35, .cell 5 35, .tmp 6]) rfl (by simp) (.cell w.heap.size 35 #[.int .i64 i, .int .i64 1] (0, 0) _ rfl (by repeat (first | (with_reducible exact (two_put k4'.out k5'.out (by omega) _ _ _ _).1) | (with_reducible refine blk_alloc ?_ _) | (with_reducible refine blk_drewN ?_ _) | (with_reducible refine blk_drew ?_))) Try.underlying35 rfl (by kernel_rfl) (.cell (w.heap.size + 1) 35 #[.int .i64 i, .int .i64 1] (0, 0) _ rfl (by repeat (first | (with_reducible exact (two_put k4'.out k5'.out (by omega) _ _ _ _).2) | (with_reducible refine blk_alloc ?_ _) | (with_reducible refine blk_drewN ?_ _) | (with_reducible refine blk_drew ?_))) Try.underlying35 rfl (by kernel_rfl) (.tmp .nil)))) rfl ?_
        exact ⟨rfl, below_alloc (two_below (BW.out.trans (BR.out.mono BW.out.size)) (Nat.le_refl _) (Nat.le_succ _) _ _ _ _) _⟩
      | false =>
        have HZ := Aside0.mk (show isZ m = false from hz)
        have htake : ∀ j, j < i → (L.take i).drop j = L.getD j z70 :: (L.take i).drop (j + 1) := by
          intro j hj
          rw [dropD z70 (L.take i) j (by rw [List.length_take]; omega)]
          congr 1
          simp [List.getD_eq_getElem?_getD, List.getElem?_take, hj]
        have HT := Aside0.mk htake
        generalize hJ : badJ m i (L.take i) 0 = RJ
        have AJ := Aside0.mk hJ
        clear htake hJ
        go_wp2
        obtain ⟨wo, rfl⟩ : ∃ q : World, q = wr := ⟨_, rfl⟩
        obtain ⟨go, rfl⟩ : ∃ q : Nat, q = gk := ⟨_, rfl⟩
        go_loopg [35] i (fun gg s wi => ∃ j : Nat, j ≤ i ∧ i - j ≤ gg ∧ s = .int .i64 j ∧ Aside0 (Below wo.heap.size wo wi) ∧ Aside0 (wi.heap[wo.heap.size]? = some (.cells #[.int .i64 m.f0, .int .i64 m.f1, .int .i64 m.f2] 70 (0, 0))) ∧ Aside0 (badJ m i ((L.take i).drop j) j = RJ))
        case atStart => exact ⟨0, Nat.zero_le _, by omega, rfl, ⟨below_alloc (Below.refl _ _) _⟩, ⟨blk_new _ _⟩, ⟨by rw [← AJ.out]; simp⟩⟩
        case round =>
          clear c40 c41 c50 c51 f40 f41 f50 f51 szr szr0 hx0 hx1 hx2
          obtain ⟨j, hj, hgj, rfl, BI, HX, AI2⟩ := hrel
          by_cases hji : j < i
          · have hjz : (j : Int) < (i : Int) := by omega
            have BRI := Aside0.mk (BR.out.trans (BI.out.mono BR.out.size))
            obtain ⟨ad', e1, hx0, hx1, hx2⟩ := at_T70 HL.out j (by omega) (by omega)
            cases e1
            replace hx0 := (BRI.out.cell (World.block_lt_of_cell? w1 _ hx0)).trans hx0
            replace hx1 := (BRI.out.cell (World.block_lt_of_cell? w1 _ hx1)).trans hx1
            replace hx2 := (BRI.out.cell (World.block_lt_of_cell? w1 _ hx2)).trans hx2
            simp only [Int.toNat_natCast] at hx0 hx1 hx2
            rw [show rd_T70 L (j : Int) = L.getD j z70 from rfl] at hx0 hx1 hx2
            have Bj := HT.out j hji
            generalize L.getD j z70 = o at *
            have BJ := Aside0.mk Bj
            have hy0 := blk_cell HX.out 0
            have hy1 := blk_cell HX.out 1
            have hy2 := blk_cell HX.out 2
            have szo : wo.heap.size < wr.heap.size := blk_lt HX.out
            clear Bj
            go_wp2
            refine wp_loop_rounds 3 ?_
            rw [rounds_succ]
            go_wp2
            have kk4 := Aside0.mk (blk_below k4'.out BI.out)
            have kk5 := Aside0.mk (blk_below k5'.out BI.out)
            have hsl := blk_new (wr.alloc (.cells #[.int .i64 o.f0, .int .i64 o.f1, .int .i64 o.f2] 70)) (.cells #[.int .i64 1, .int .i64 (-1)] 3)
            rw [show (wr.alloc (.cells #[.int .i64 o.f0, .int .i64 o.f1, .int .i64 o.f2] 70)).heap.size = wr.heap.size + 1 from by simp] at hsl
            have KS := Aside0.mk hsl
            clear hsl
            obtain ⟨t0, ht0⟩ : ∃ z, z = wrap64 (m.f0 * (1)) := ⟨_, rfl⟩
            obtain ⟨t1, ht1⟩ : ∃ z, z = wrap64 (m.f1 * (1)) := ⟨_, rfl⟩
            obtain ⟨t2, ht2⟩ : ∃ z, z = wrap64 (m.f2 * (1)) := ⟨_, rfl⟩
            have HF := Aside0.mk (show weigh_mark_times.f m.f0 m.f1 m.f2 (1) = some (t0, t1, t2) by rw [ht0, ht1, ht2]; rfl)
            have HE := Aside0.mk (show eqTim o m (1) = (o.f0 == t0 && (o.f1 == t1 && o.f2 == t2)) by rw [ht0, ht1, ht2]; rfl)
            clear ht0 ht1 ht2
            go_region_held3 (fun W => W.cell? ⟨wo.heap.size, 0, none⟩ = some (.int .i64 m.f0) ∧ W.cell? ⟨wo.heap.size, 1, none⟩ = some (.int .i64 m.f1) ∧ W.cell? ⟨wo.heap.size, 2, none⟩ = some (.int .i64 m.f2) ∧ W.cell? ⟨wr.heap.size, 0, none⟩ = some (.int .i64 o.f0) ∧ W.cell? ⟨wr.heap.size, 1, none⟩ = some (.int .i64 o.f1) ∧ W.cell? ⟨wr.heap.size, 2, none⟩ = some (.int .i64 o.f2)) (go_keep) (first | (go_at_call 94; refine (times_six m.f0 m.f1 m.f2 (1) t0 t1 t2 HF.out _ wo.heap.size wr.heap.size (.int .i64 m.f0) (.int .i64 m.f1) (.int .i64 m.f2) (.int .i64 o.f0) (.int .i64 o.f1) (.int .i64 o.f2) ?_ ?_ ?_ ?_ ?_ ?_).mono ?_; (simp [*]); (simp [*]); (simp [*]); (simp [*]); (simp [*]); (simp [*]); rintro e w' ⟨rfl, hbT, hT0, hT1, hT2, hT3, hT4, hT5⟩))
            have k4n := blk_below (g := w.heap.size) (o := .cells #[.int .i64 0, .int .i64 0] 35 (0, 0)) (by repeat (first | (with_reducible exact kk4.out) | (with_reducible refine blk_alloc ?_ _) | (with_reducible refine blk_drewN ?_ _) | (with_reducible refine blk_drew ?_))) hbT
            have k5n := blk_below (g := w.heap.size + 1) (o := .cells #[.int .i64 0, .int .i64 0] 35 (0, 0)) (by repeat (first | (with_reducible exact kk5.out) | (with_reducible refine blk_alloc ?_ _) | (with_reducible refine blk_drewN ?_ _) | (with_reducible refine blk_drew ?_))) hbT
            have HXn := blk_below (g := wo.heap.size) (o := .cells #[.int .i64 m.f0, .int .i64 m.f1, .int .i64 m.f2] 70 (0, 0)) (by repeat (first | (with_reducible exact HX.out) | (with_reducible refine blk_alloc ?_ _) | (with_reducible refine blk_drewN ?_ _) | (with_reducible refine blk_drew ?_))) hbT
            have hBn : Aside0 (Below wo.heap.size wo w') := ⟨Below.trans (by repeat (first | (with_reducible exact BI.out) | (with_reducible apply pw_below_drewN) | (with_reducible apply below_drew1) | (with_reducible refine Below.alloc ?_ (by first | exact BI.out.size | (simp; omega)) _))) (hbT.mono (by first | omega | (simp; omega)))⟩
            generalize hE : (o.f0 == t0 && (o.f1 == t1 && o.f2 == t2)) = be at *
            clear hE
            cases be with
            | true =>
              have szq : w.heap.size + 1 < w'.heap.size := blk_lt k5n
              have szq0 : w.heap.size < w'.heap.size := by omega
              have c40 := blk_cell k4n 0
              have c41 := blk_cell k4n 1
              have c50 := blk_cell k5n 0
              have c51 := blk_cell k5n 1
              simp only [List.getElem?_toArray, List.getElem?_cons_zero, List.getElem?_cons_succ] at c40 c41 c50 c51
              have f40 := blk_frozen k4n 0
              have f41 := blk_frozen k4n 1
              have f50 := blk_frozen k5n 0
              have f51 := blk_frozen k5n 1
              have kn4 := Aside0.mk k4n
              have kn5 := Aside0.mk k5n
              clear k4n k5n HXn
              go_wp2
              have hfin : ((j : Int), (1 : Int), (i : Int), (1 : Int), true) = (r1, r2, r3, r4, r5) := by
                have h := HQ.out
                have h2 := AI2.out
                rw [BJ.out, badJ, if_pos HE.out] at h2
                rw [← AI.out, Bi.out, badI, if_neg (by rw [HZ.out]; simp), AJ.out, ← h2] at h
                exact h
              simp only [Prod.mk.injEq] at hfin
              obtain ⟨rfl, rfl, rfl, rfl, rfl⟩ := hfin
              refine bodyPost_ret (results_list (rs := [.cell 4 35, .cell 5 35, .tmp 6]) rfl (by simp) (.cell w.heap.size 35 #[.int .i64 j, .int .i64 1] (0, 0) _ rfl (by repeat (first | (with_reducible exact (two_put kn4.out kn5.out (by omega) _ _ _ _).1) | (with_reducible refine blk_alloc ?_ _) | (with_reducible refine blk_drewN ?_ _) | (with_reducible refine blk_drew ?_))) Try.underlying35 rfl (by kernel_rfl) (.cell (w.heap.size + 1) 35 #[.int .i64 i, .int .i64 (1)] (0, 0) _ rfl (by repeat (first | (with_reducible exact (two_put kn4.out kn5.out (by omega) _ _ _ _).2) | (with_reducible refine blk_alloc ?_ _) | (with_reducible refine blk_drewN ?_ _) | (with_reducible refine blk_drew ?_))) Try.underlying35 rfl (by kernel_rfl) (.tmp .nil)))) rfl ?_
              exact ⟨rfl, two_below ((BW.out.trans (BR.out.mono BW.out.size)).trans (hBn.out.mono (Nat.le_trans BW.out.size BR.out.size))) (Nat.le_refl _) (Nat.le_succ _) _ _ _ _⟩
            | false =>
              have kn4 := Aside0.mk k4n
              have kn5 := Aside0.mk k5n
              have HX2 := Aside0.mk HXn
              have BI2 := hBn
              have HE1 := HE
              have hs1 := blk_cell (blk_below (g := wr.heap.size + 1) (o := .cells #[.int .i64 1, .int .i64 (-1)] 3 (0, 0)) (by repeat (first | (with_reducible exact KS.out) | (with_reducible refine blk_alloc ?_ _) | (with_reducible refine blk_drewN ?_ _) | (with_reducible refine blk_drew ?_))) hbT) 1
              have kl4 : wr.heap.size < w'.heap.size := by have := hbT.size; simp at this; omega
              clear k4n k5n HXn hBn HE HF hbT KS kk4 kk5
              go_wp2
              rw [rounds_succ]
              obtain ⟨wp, rfl⟩ : ∃ q : World, q = w' := ⟨_, rfl⟩
              go_wp2
              obtain ⟨t0, ht0⟩ : ∃ z, z = wrap64 (m.f0 * (-1)) := ⟨_, rfl⟩
              obtain ⟨t1, ht1⟩ : ∃ z, z = wrap64 (m.f1 * (-1)) := ⟨_, rfl⟩
              obtain ⟨t2, ht2⟩ : ∃ z, z = wrap64 (m.f2 * (-1)) := ⟨_, rfl⟩
              have HF := Aside0.mk (show weigh_mark_times.f m.f0 m.f1 m.f2 (-1) = some (t0, t1, t2) by rw [ht0, ht1, ht2]; rfl)
              have HE := Aside0.mk (show eqTim o m (-1) = (o.f0 == t0 && (o.f1 == t1 && o.f2 == t2)) by rw [ht0, ht1, ht2]; rfl)
              clear ht0 ht1 ht2
              go_region_held3 (fun W => W.cell? ⟨wo.heap.size, 0, none⟩ = some (.int .i64 m.f0) ∧ W.cell? ⟨wo.heap.size, 1, none⟩ = some (.int .i64 m.f1) ∧ W.cell? ⟨wo.heap.size, 2, none⟩ = some (.int .i64 m.f2) ∧ W.cell? ⟨wr.heap.size, 0, none⟩ = some (.int .i64 o.f0) ∧ W.cell? ⟨wr.heap.size, 1, none⟩ = some (.int .i64 o.f1) ∧ W.cell? ⟨wr.heap.size, 2, none⟩ = some (.int .i64 o.f2)) (go_keep) (first | (go_at_call 94; refine (times_six m.f0 m.f1 m.f2 (-1) t0 t1 t2 HF.out _ wo.heap.size wr.heap.size (.int .i64 m.f0) (.int .i64 m.f1) (.int .i64 m.f2) (.int .i64 o.f0) (.int .i64 o.f1) (.int .i64 o.f2) ?_ ?_ ?_ ?_ ?_ ?_).mono ?_; (simp [*]); (simp [*]); (simp [*]); (simp [*]); (simp [*]); (simp [*]); rintro e w' ⟨rfl, hbT, hT0, hT1, hT2, hT3, hT4, hT5⟩))
              have k4n := blk_below (g := w.heap.size) (o := .cells #[.int .i64 0, .int .i64 0] 35 (0, 0)) (by repeat (first | (with_reducible exact kn4.out) | (with_reducible refine blk_alloc ?_ _) | (with_reducible refine blk_drewN ?_ _) | (with_reducible refine blk_drew ?_))) hbT
              have k5n := blk_below (g := w.heap.size + 1) (o := .cells #[.int .i64 0, .int .i64 0] 35 (0, 0)) (by repeat (first | (with_reducible exact kn5.out) | (with_reducible refine blk_alloc ?_ _) | (with_reducible refine blk_drewN ?_ _) | (with_reducible refine blk_drew ?_))) hbT
              have HXn := blk_below (g := wo.heap.size) (o := .cells #[.int .i64 m.f0, .int .i64 m.f1, .int .i64 m.f2] 70 (0, 0)) (by repeat (first | (with_reducible exact HX2.out) | (with_reducible refine blk_alloc ?_ _) | (with_reducible refine blk_drewN ?_ _) | (with_reducible refine blk_drew ?_))) hbT
              have hBn : Aside0 (Below wo.heap.size wo w') := ⟨Below.trans (by repeat (first | (with_reducible exact BI2.out) | (with_reducible apply pw_below_drewN) | (with_reducible apply below_drew1) | (with_reducible refine Below.alloc ?_ (by first | exact BI2.out.size | (simp; omega)) _))) (hbT.mono (by first | omega | (simp; omega)))⟩
              generalize hE : (o.f0 == t0 && (o.f1 == t1 && o.f2 == t2)) = be at *
              clear hE
              cases be with
              | true =>
                have szq : w.heap.size + 1 < w'.heap.size := blk_lt k5n
                have szq0 : w.heap.size < w'.heap.size := by omega
                have c40 := blk_cell k4n 0
                have c41 := blk_cell k4n 1
                have c50 := blk_cell k5n 0
                have c51 := blk_cell k5n 1
                simp only [List.getElem?_toArray, List.getElem?_cons_zero, List.getElem?_cons_succ] at c40 c41 c50 c51
                have f40 := blk_frozen k4n 0
                have f41 := blk_frozen k4n 1
                have f50 := blk_frozen k5n 0
                have f51 := blk_frozen k5n 1
                have kn4 := Aside0.mk k4n
                have kn5 := Aside0.mk k5n
                clear k4n k5n HXn
                go_wp2
                have hfin : ((j : Int), (1 : Int), (i : Int), (-1 : Int), true) = (r1, r2, r3, r4, r5) := by
                  have h := HQ.out
                  have h2 := AI2.out
                  rw [BJ.out, badJ, if_neg (by rw [HE1.out]; simp), if_pos HE.out] at h2
                  rw [← AI.out, Bi.out, badI, if_neg (by rw [HZ.out]; simp), AJ.out, ← h2] at h
                  exact h
                simp only [Prod.mk.injEq] at hfin
                obtain ⟨rfl, rfl, rfl, rfl, rfl⟩ := hfin
                refine bodyPost_ret (results_list (rs := [.cell 4 35, .cell 5 35, .tmp 6]) rfl (by simp) (.cell w.heap.size 35 #[.int .i64 j, .int .i64 1] (0, 0) _ rfl (by repeat (first | (with_reducible exact (two_put kn4.out kn5.out (by omega) _ _ _ _).1) | (with_reducible refine blk_alloc ?_ _) | (with_reducible refine blk_drewN ?_ _) | (with_reducible refine blk_drew ?_))) Try.underlying35 rfl (by kernel_rfl) (.cell (w.heap.size + 1) 35 #[.int .i64 i, .int .i64 (-1)] (0, 0) _ rfl (by repeat (first | (with_reducible exact (two_put kn4.out kn5.out (by omega) _ _ _ _).2) | (with_reducible refine blk_alloc ?_ _) | (with_reducible refine blk_drewN ?_ _) | (with_reducible refine blk_drew ?_))) Try.underlying35 rfl (by kernel_rfl) (.tmp .nil)))) rfl ?_
                exact ⟨rfl, two_below ((BW.out.trans (BR.out.mono BW.out.size)).trans (hBn.out.mono (Nat.le_trans BW.out.size BR.out.size))) (Nat.le_refl _) (Nat.le_succ _) _ _ _ _⟩
              | false =>
                have HXm := Aside0.mk HXn
                clear k4n k5n HXn
                go_wp2
                rw [rounds_succ]
                go_wp2
                go_roundg (i - (j + 1))
                case measure => omega
                case rel =>
                  refine ⟨j + 1, by omega, by omega, by go_num, hBn, HXm, ⟨?_⟩⟩
                  have h2 := AI2.out
                  rw [BJ.out, badJ, if_neg (by rw [HE1.out]; simp), if_neg (by rw [HE.out]; simp)] at h2
                  exact h2
          · have hjz : ¬ (j : Int) < (i : Int) := by omega
            have hji' : i ≤ j := by omega
            go_wp2
            go_roundg (L.length - (i + 1))
            case measure => omega
            case rel =>
              refine ⟨i + 1, by omega, by omega, by go_num, ⟨BR.out.trans (BI.out.mono BR.out.size)⟩, ⟨?_⟩⟩
              have h2 := AI2.out
              rw [List.drop_eq_nil_of_le (by rw [List.length_take]; omega)] at h2
              have h := AI.out
              rw [Bi.out, badI, if_neg (by rw [HZ.out]; simp), AJ.out, ← h2] at h
              exact h
    · have hilz : ¬ (i : Int) < (L.length : Int) := by omega
      have hil' : L.length ≤ i := by omega
      have k4 := blk_below K4.out BR.out
      have k5 := blk_below K5.out BR.out
      have szr : w.heap.size + 1 < wr.heap.size := blk_lt k5
      have szr0 : w.heap.size < wr.heap.size := by omega
      have c40 := blk_cell k4 0
      have c41 := blk_cell k4 1
      have c50 := blk_cell k5 0
      have c51 := blk_cell k5 1
      simp only [List.getElem?_toArray, List.getElem?_cons_zero, List.getElem?_cons_succ] at c40 c41 c50 c51
      have f40 := blk_frozen k4 0
      have f41 := blk_frozen k4 1
      have f50 := blk_frozen k5 0
      have f51 := blk_frozen k5 1
      have k4' := Aside0.mk k4
      have k5' := Aside0.mk k5
      clear k4 k5
      go_wp2
      have hfin : ((0 : Int), (0 : Int), (0 : Int), (0 : Int), false) = (r1, r2, r3, r4, r5) := by
        have h := HQ.out
        rw [← AI.out, List.drop_eq_nil_of_le hil'] at h
        exact h
      simp only [Prod.mk.injEq] at hfin
      obtain ⟨rfl, rfl, rfl, rfl, rfl⟩ := hfin
      refine bodyPost_ret (results_list (rs := [.cell 4 35, .cell 5 35, .tmp 6]) rfl (by simp) (.cell w.heap.size 35 #[.int .i64 0, .int .i64 0] (0, 0) _ rfl (by repeat (first | (with_reducible exact (two_put k4'.out k5'.out (by omega) _ _ _ _).1) | (with_reducible refine blk_alloc ?_ _) | (with_reducible refine blk_drewN ?_ _) | (with_reducible refine blk_drew ?_))) Try.underlying35 rfl (by kernel_rfl) (.cell (w.heap.size + 1) 35 #[.int .i64 0, .int .i64 0] (0, 0) _ rfl (by repeat (first | (with_reducible exact (two_put k4'.out k5'.out (by omega) _ _ _ _).2) | (with_reducible refine blk_alloc ?_ _) | (with_reducible refine blk_drewN ?_ _) | (with_reducible refine blk_drew ?_))) Try.underlying35 rfl (by kernel_rfl) (.tmp .nil)))) rfl ?_
      exact ⟨rfl, two_below (BW.out.trans (BR.out.mono BW.out.size)) (Nat.le_refl _) (Nat.le_succ _) _ _ _ _⟩
end Go.Proofs.Ytdbeochifofdoaa.X
end

section
/-! The program's marks are the document's. -/
namespace Go.Proofs.Ytdbeochifofdoaa.X
open Go.RowKit Go.Proofs.YtdbeochifofdoaaW.PrintWords Go.Proofs.YtdbeochifofdoaaW.PrintLast
set_option linter.unusedVariables false
set_option linter.unusedSimpArgs false

theorem fsetl_at (k : Nat) (v : Int) : ∀ (l : List Int) (f : Nat → Nat → Int) (a b : Nat), (∀ x, x ∈ l → 0 ≤ x) → fsetl k v f l a b = if b = k ∧ l.contains (a : Int) = true then v else f a b
  | [], f, a, b, _ => by simp [fsetl]
  | x :: xs, f, a, b, h => by
    have hx : 0 ≤ x := h x List.mem_cons_self
    rw [fsetl, fsetl_at k v xs _ a b (fun y hy => h y (List.mem_cons_of_mem _ hy)), List.contains_cons]
    by_cases hb : b = k
    · subst hb
      cases hc : xs.contains (a : Int) with
      | true => simp
      | false =>
        unfold upd
        by_cases he : a = x.toNat
        · have h1 : ((a : Int) == x) = true := by rw [beq_iff_eq]; omega
          rw [h1]; simp [he]
        · have h1 : ((a : Int) == x) = false := by rw [beq_eq_false_iff_ne]; omega
          simp [he, h1]
    · simp [hb, upd]
/-- What a weighing writes into the row a. -/
def cellOf (y : S53) (a v : Int) : Int := if y.f1.contains a = true then -1 else if y.f0.contains a = true then 1 else v
theorem marksF_at : ∀ (l : List S53) (f : Nat → Nat → Int) (k a b : Nat), (∀ y, y ∈ l → (∀ x, x ∈ y.f0 → 0 ≤ x) ∧ ∀ x, x ∈ y.f1 → 0 ≤ x) →
    marksF f k l a b = if k ≤ b ∧ b < k + l.length then cellOf (l.getD (b - k) z53) a (f a b) else f a b
  | [], f, k, a, b, _ => by
    rw [if_neg (by rw [List.length_nil]; omega)]
    rfl
  | y :: ys, f, k, a, b, h => by
    have hy := h y List.mem_cons_self
    rw [marksF, marksF_at ys _ (k + 1) a b (fun z hz => h z (List.mem_cons_of_mem _ hz)), fsetl_at k (-1) y.f1 _ a b hy.2, fsetl_at k 1 y.f0 f a b hy.1]
    by_cases hb : b = k
    · subst hb
      rw [if_neg (by omega), if_pos (show b ≤ b ∧ b < b + (y :: ys).length by rw [List.length_cons]; omega), Nat.sub_self, List.getD_cons_zero]
      unfold cellOf
      simp
    · by_cases hr : k + 1 ≤ b ∧ b < k + 1 + ys.length
      · rw [if_pos hr, if_pos (show k ≤ b ∧ b < k + (y :: ys).length by rw [List.length_cons]; omega), show b - k = (b - (k + 1)) + 1 by omega]
        simp [hb, List.getD_cons_succ]
      · rw [if_neg hr, if_neg (show ¬ (k ≤ b ∧ b < k + (y :: ys).length) by rw [List.length_cons]; omega)]
        simp [hb]
end Go.Proofs.Ytdbeochifofdoaa.X
end

section
/-! bad finds nothing just if the plan tells. -/
namespace Go.Proofs.Ytdbeochifofdoaa.X
open Go.RowKit Go.Proofs.YtdbeochifofdoaaW.PrintWords Go.Proofs.YtdbeochifofdoaaW.PrintLast
set_option linter.unusedVariables false
set_option linter.unusedSimpArgs false

/-- A lot's mark, as three numbers. -/
def mk3 (l : List S53) (n : Nat) : S70 := ⟨((refMark l n).getD 0 0), ((refMark l n).getD 1 0), ((refMark l n).getD 2 0)⟩
theorem cellOf_mark (y : S53) (n : Nat) : cellOf y n 0 = markOf n y := rfl
theorem marksF_mk (l : List S53) (hp : ∀ y, y ∈ l → (∀ x, x ∈ y.f0 → 0 ≤ x) ∧ ∀ x, x ∈ y.f1 → 0 ≤ x) (n k : Nat) : marksF (fun _ _ => 0) 0 l n k = (refMark l n).getD k 0 := by
  rw [marksF_at l _ 0 n k hp]
  by_cases h : k < l.length
  · rw [if_pos (by omega), cellOf_mark]
    simp [refMark, List.getD_eq_getElem?_getD, List.getElem?_map, List.getElem?_eq_getElem h]
  · rw [if_neg (by omega)]
    simp [refMark, List.getD_eq_getElem?_getD, List.getElem?_eq_none (by simpa using h : l.length ≤ k)]
theorem marksL_mk (lots : Int) (l : List S53) (hp : ∀ y, y ∈ l → (∀ x, x ∈ y.f0 → 0 ≤ x) ∧ ∀ x, x ∈ y.f1 → 0 ≤ x) : marksL lots l = (List.range lots.toNat).map (mk3 l) := by
  unfold marksL rowsOf mk3
  simp only [marksF_mk l hp]
theorem markOf_small (n : Int) (y : S53) : -1 ≤ markOf n y ∧ markOf n y ≤ 1 := by
  unfold markOf
  split
  · decide
  · split <;> decide
end Go.Proofs.Ytdbeochifofdoaa.X
end

section
-- Written by a program of this session (wip/hook.py, which runs the kit's print.py with contracts proved by hand). Not trusted: Lean checks it.
namespace Go.Proofs.Ytdbeochifofdoaa.X
open Go.RowKit Go.Proofs.YtdbeochifofdoaaW.PrintWords Go.Proofs.YtdbeochifofdoaaW.PrintLast Go.Proofs.YtdbeochifofdoaaW.PrintMore
attribute [local go_sem] max2_int min2_int max_two min_two max_three min_three max_four min_four   -- for this text's walks alone
set_option linter.unusedVariables false
set_option linter.unusedSimpArgs false

-- GIVEN: function 58 (weigh_Validate): YtdbeochifofdoaaG58

-- GIVEN: function 90 (weigh_marks): YtdbeochifofdoaaG90

-- GIVEN: function 77 (weigh_bad): YtdbeochifofdoaaG77

/-! ### weigh_Tells: function 44 -/
def weigh_Tells.f (a0 : Int) (l1 : List (S53)) : Option (Bool × Int) := (weigh_Validate.f a0 l1).bind fun t128 => (if t128 = 0 then ((weigh_bad.f a0 l1).bind fun bt129 => (some (!bt129.2.2.2.2, 0))) else (some (false, t128)))
set_option maxHeartbeats 8000000 in
set_option maxRecDepth 100000 in
theorem weigh_Tells.calls (a0 : Int) (A1 : Option Addr) (c1 : Nat) (l1 : List (S53)) (r1 : Bool) (r2 : Int) (w : World) (hr1 : Kd.C k53 w A1 l1.length l1) (hc1 : l1.length ≤ c1) (h : weigh_Tells.f a0 l1 = some (r1, r2)) :
    Calls Try.prog 44 #[.int .i64 a0, .slice A1 l1.length c1] w fun e w' => e = .returned (.tuple #[.bool r1, .int .i64 r2]) ∧ Below w.heap.size w w' := by
  have hu35 := Try.underlying35
  have HR1 := Aside0.mk hr1
  have HC1 := Aside0.mk hc1
  clear hr1 hc1
  have HB := Aside0.mk (Below.refl w.heap.size w)
  have H : ((weigh_Validate.f a0 l1).bind fun t128 => (if t128 = 0 then ((weigh_bad.f a0 l1).bind fun bt129 => (some (!bt129.2.2.2.2, 0))) else (some (false, t128)))) = some (r1, r2) := h
  clear h
  replace H := Option.bind_eq_some_iff.mp H
  obtain ⟨t128, A30, H⟩ := H
  replace H : (if t128 = 0 then ((weigh_bad.f a0 l1).bind fun bt129 => (some (!bt129.2.2.2.2, 0))) else (some (false, t128))) = some (r1, r2) := H
  have A3 := Aside0.mk A30
  clear A30
  by_cases c4 : t128 = 0
  · rw [if_pos c4] at H
    have c4b0 : (t128 == 0) = true := beq_iff_eq.mpr c4
    have c4b1 : (t128 != 0) = false := bne_eq_false_iff_eq.mpr c4
    clear c4
    replace H := Option.bind_eq_some_iff.mp H
    obtain ⟨⟨t129, t130, t131, t132, t133⟩, A50, H⟩ := H
    replace H : (some (!t133, 0)) = some (r1, r2) := H
    have A5 := Aside0.mk A50
    clear A50
    simp only [Option.some.injEq, Prod.mk.injEq] at H
    obtain ⟨rfl, rfl⟩ := H
    go_enter Try.func44, Try.ntmps44
    go_wp2_with (first | ((with_reducible refine gate_callee (f := 58) rfl ?_); refine goesL_ (some 12) rfl rfl Try.func58 (by kernel_rfl) rfl #[.int .i64 a0, .slice A1 l1.length c1] rfl (by (try simp only [List.map_toArray, List.map_cons, List.map_nil]); first | done | rfl | (simp only [List.length_drop, List.length_take]; rfl)) ?_; (with_reducible refine (weigh_Validate.calls a0 _ _ l1 t128 _ ?side1 ?side2 A3.out).mono ?_); (case side1 => repeat (first | exact HR1.out | (with_reducible refine Kd.C_alloc ?_ _) | (with_reducible refine Kd.C_drewN ?_ _) | (with_reducible refine Kd.C_drew ?_))); (case side2 => exact HC1.out); rintro e w6 ⟨rfl, hb⟩; refine ⟨_, rfl, ?_⟩; have n0_ := Aside0.mk (below_step (by repeat (first | (with_reducible first | exact HB.out | apply below_alloc | apply pw_below_drewN | apply below_drew1) | exact HB.out)) hb); clear HB; have HB := n0_; clear n0_; (try clear hb); (try clear hb2); (try clear hk); (try clear hi)) | ((with_reducible refine gate_callee (f := 77) rfl ?_); refine goesL_ (some 19) rfl rfl Try.func77 (by kernel_rfl) rfl #[.int .i64 a0, .slice A1 l1.length c1] rfl (by (try simp only [List.map_toArray, List.map_cons, List.map_nil]); first | done | rfl | (simp only [List.length_drop, List.length_take]; rfl)) ?_; (with_reducible refine (weigh_bad.calls a0 _ _ l1 t129 t130 t131 t132 t133 _ ?side1 ?side2 A5.out).mono ?_); (case side1 => repeat (first | exact (Kd.C_below HR1.out HB.out) | (with_reducible refine Kd.C_alloc ?_ _) | (with_reducible refine Kd.C_drewN ?_ _) | (with_reducible refine Kd.C_drew ?_))); (case side2 => exact HC1.out); rintro e w7 ⟨rfl, hb⟩; refine ⟨_, rfl, ?_⟩; have n0_ := Aside0.mk (below_step (by repeat (first | (with_reducible first | exact HB.out | apply below_alloc | apply pw_below_drewN | apply below_drew1) | exact HB.out)) hb); clear HB; have HB := n0_; clear n0_; (try clear hb); (try clear hb2); (try clear hk); (try clear hi)) | ((with_reducible refine gate_dst (N := 7) rfl ?_); refine box_event ?hg (N := 7) ?hd (cs := #[.int .i64 0, .int .i64 0]) (t := 35) ?hr ?_; (case hd => rfl); (case hg => rfl); (case hr => first | (go_simp; done) | (go_simp; rfl)); intro gb134 hg w8 hbox hb; have n0_ := Aside0.mk (below_step (by repeat (first | (with_reducible first | exact HB.out | apply below_alloc | apply pw_below_drewN | apply below_drew1) | exact HB.out)) hb); have n1_ := Aside0.mk (hbox); have n2_ := Aside0.mk ((by rw [hg]; exact (below_size (by repeat (first | (with_reducible first | exact HB.out | apply below_alloc | apply pw_below_drewN | apply below_drew1) | exact HB.out))) : w.heap.size ≤ gb134)); have n3_ := Aside0.mk ((by rw [hg]; exact (below_size (by repeat (first | (with_reducible first | exact HB.out | apply below_alloc | apply pw_below_drewN | apply below_drew1) | exact HB.out))) : w.heap.size ≤ gb134)); clear HB; have HB := n0_; have BK134 := n1_; have GW134 := n2_; have GE134 := n3_; clear n0_ n1_ n2_ n3_; clear hb hbox hg) | ((with_reducible refine gate_dst (N := 8) rfl ?_); refine box_event ?hg (N := 8) ?hd (cs := #[.int .i64 0, .int .i64 0]) (t := 35) ?hr ?_; (case hd => rfl); (case hg => rfl); (case hr => first | (go_simp; done) | (go_simp; rfl)); intro gb135 hg w9 hbox hb; have n0_ := Aside0.mk (blk_below (g := gb134) (o := .cells #[.int .i64 0, .int .i64 0] 35 (0, 0)) (by (with_reducible repeat (first | refine blk_drewN ?_ _ | refine blk_drew ?_ | refine blk_alloc ?_ _)); exact BK134.out) hb); have n1_ := Aside0.mk (below_step (by repeat (first | (with_reducible first | exact HB.out | apply below_alloc | apply pw_below_drewN | apply below_drew1 | refine below_set ?_ GE134.out) | exact HB.out)) hb); have n2_ := Aside0.mk (hbox); have n3_ := Aside0.mk ((by rw [hg]; exact (below_size (by repeat (first | (with_reducible first | exact HB.out | apply below_alloc | apply pw_below_drewN | apply below_drew1 | refine below_set ?_ GE134.out) | exact HB.out))) : w.heap.size ≤ gb135)); have n4_ := Aside0.mk ((by rw [hg]; exact (below_size (by repeat (first | (with_reducible first | exact HB.out | apply below_alloc | apply pw_below_drewN | apply below_drew1 | refine below_set ?_ GE134.out) | exact HB.out))) : w.heap.size ≤ gb135)); have n5_ := Aside0.mk ((by rw [hg]; exact Nat.ne_of_lt (blk_lt (g := gb134) (o := .cells #[.int .i64 0, .int .i64 0] 35 (0, 0)) (by (with_reducible repeat (first | refine blk_drewN ?_ _ | refine blk_drew ?_ | refine blk_alloc ?_ _)); exact BK134.out)) : gb134 ≠ gb135)); have n6_ := Aside0.mk ((by rw [hg]; exact Nat.ne_of_gt (blk_lt (g := gb134) (o := .cells #[.int .i64 0, .int .i64 0] 35 (0, 0)) (by (with_reducible repeat (first | refine blk_drewN ?_ _ | refine blk_drew ?_ | refine blk_alloc ?_ _)); exact BK134.out)) : gb135 ≠ gb134)); clear BK134; clear HB; have BK134 := n0_; have HB := n1_; have BK135 := n2_; have GW135 := n3_; have GE135 := n4_; have NB134_135 := n5_; have NB135_134 := n6_; clear n0_ n1_ n2_ n3_ n4_ n5_ n6_; clear hb hbox hg; have hnb10 := NB134_135.out; have hnc10 := NB135_134.out; have hcz11_0 : w9.cell? ⟨gb134, 0, none⟩ = some (.int .i64 0) := (blk_cell BK134.out 0).trans rfl; have hcz11_1 : w9.cell? ⟨gb134, 1, none⟩ = some (.int .i64 0) := (blk_cell BK134.out 1).trans rfl; have hfz11_0 := blk_frozen BK134.out 0; have hfz11_1 := blk_frozen BK134.out 1; have hcz12_0 : w9.cell? ⟨gb135, 0, none⟩ = some (.int .i64 0) := (blk_cell BK135.out 0).trans rfl; have hcz12_1 : w9.cell? ⟨gb135, 1, none⟩ = some (.int .i64 0) := (blk_cell BK135.out 1).trans rfl; have hfz12_0 := blk_frozen BK135.out 0; have hfz12_1 := blk_frozen BK135.out 1))
    go_ret2
    exact ⟨by first | rfl | (simp [errW_none, errW_some] <;> rfl) | (simp [*, errW_none, errW_some] <;> rfl), by repeat (first | (with_reducible first | exact HB.out | apply below_alloc | apply pw_below_drewN | apply below_drew1 | refine below_set ?_ GE134.out | refine below_set ?_ GE135.out) | exact HB.out)⟩
  · rw [if_neg c4] at H
    have c4b0 : (t128 == 0) = false := beq_eq_false_iff_ne.mpr c4
    have c4b1 : (t128 != 0) = true := bne_iff_ne.mpr c4
    simp only [Option.some.injEq, Prod.mk.injEq] at H
    obtain ⟨rfl, rfl⟩ := H
    go_enter Try.func44, Try.ntmps44
    go_wp2_with (first | ((with_reducible refine gate_callee (f := 58) rfl ?_); refine goesL_ (some 12) rfl rfl Try.func58 (by kernel_rfl) rfl #[.int .i64 a0, .slice A1 l1.length c1] rfl (by (try simp only [List.map_toArray, List.map_cons, List.map_nil]); first | done | rfl | (simp only [List.length_drop, List.length_take]; rfl)) ?_; (with_reducible refine (weigh_Validate.calls a0 _ _ l1 t128 _ ?side1 ?side2 A3.out).mono ?_); (case side1 => repeat (first | exact HR1.out | (with_reducible refine Kd.C_alloc ?_ _) | (with_reducible refine Kd.C_drewN ?_ _) | (with_reducible refine Kd.C_drew ?_))); (case side2 => exact HC1.out); rintro e w13 ⟨rfl, hb⟩; refine ⟨_, rfl, ?_⟩; have n0_ := Aside0.mk (below_step (by repeat (first | (with_reducible first | exact HB.out | apply below_alloc | apply pw_below_drewN | apply below_drew1) | exact HB.out)) hb); clear HB; have HB := n0_; clear n0_; (try clear hb); (try clear hb2); (try clear hk); (try clear hi)))
    go_ret2
    exact ⟨by first | rfl | (simp [errW_none, errW_some] <;> rfl) | (simp [*, errW_none, errW_some] <;> rfl), by repeat (first | (with_reducible first | exact HB.out | apply below_alloc | apply pw_below_drewN | apply below_drew1) | exact HB.out)⟩

-- GIVEN: function 91 (slices_Clone_int_int): YtdbeochifofdoaaG91

-- GIVEN: function 51 (weigh_Marks): YtdbeochifofdoaaG51

/-! ### verditerlaw06_example: function 52 -/
def verditerlaw06_example.f  : Option ((List (S53))) := some (([(⟨(([0] : List Int)), (([1] : List Int))⟩ : S53), (⟨(([1] : List Int)), (([2] : List Int))⟩ : S53)] : List (S53)))
set_option maxHeartbeats 8000000 in
set_option maxRecDepth 100000 in
theorem verditerlaw06_example.calls  (r : List (S53)) (w : World) (h : verditerlaw06_example.f  = some r) :
    Calls Try.prog 52 #[] w fun e w' => ∃ v0_ : Value, e = .returned (v0_) ∧ Kd.N k53 53 w' w.heap.size (fun k_ => (w.heap.size ≤ k_)) v0_ r ∧ Below w.heap.size w w' := by
  have hu53 := Try.underlying53
  have HB := Aside0.mk (Below.refl w.heap.size w)
  have H : (some (([(⟨(([0] : List Int)), (([1] : List Int))⟩ : S53), (⟨(([1] : List Int)), (([2] : List Int))⟩ : S53)] : List (S53)))) = some r := h
  clear h
  obtain ⟨y136, hy136⟩ : ∃ y_ : List Int, y_ = (([0] : List Int)) := ⟨_, rfl⟩
  replace H : (some (([(⟨y136, (([1] : List Int))⟩ : S53), (⟨(([1] : List Int)), (([2] : List Int))⟩ : S53)] : List (S53)))) = some r := by first | (rw [hy136]; with_reducible exact H) | (have H2_ := (Option.bind_some _ _).symm.trans H; rw [hy136]; with_reducible exact H2_) | (have H2_ := (Option.bind_some _ _).symm.trans H; with_reducible exact H2_) | with_reducible exact H | (rw [hy136]; exact H) | exact H
  have Ny136 := Aside0.mk hy136
  clear hy136
  obtain ⟨y139, hy139⟩ : ∃ y_ : List Int, y_ = (([1] : List Int)) := ⟨_, rfl⟩
  replace H : (some (([(⟨y136, y139⟩ : S53), (⟨(([1] : List Int)), (([2] : List Int))⟩ : S53)] : List (S53)))) = some r := by first | (rw [hy139]; with_reducible exact H) | (have H2_ := (Option.bind_some _ _).symm.trans H; rw [hy139]; with_reducible exact H2_) | (have H2_ := (Option.bind_some _ _).symm.trans H; with_reducible exact H2_) | with_reducible exact H | (rw [hy139]; exact H) | exact H
  have Ny139 := Aside0.mk hy139
  clear hy139
  obtain ⟨y142, hy142⟩ : ∃ y_ : List Int, y_ = (([1] : List Int)) := ⟨_, rfl⟩
  replace H : (some (([(⟨y136, y139⟩ : S53), (⟨y142, (([2] : List Int))⟩ : S53)] : List (S53)))) = some r := by first | (rw [hy142]; with_reducible exact H) | (have H2_ := (Option.bind_some _ _).symm.trans H; rw [hy142]; with_reducible exact H2_) | (have H2_ := (Option.bind_some _ _).symm.trans H; with_reducible exact H2_) | with_reducible exact H | (rw [hy142]; exact H) | exact H
  have Ny142 := Aside0.mk hy142
  clear hy142
  obtain ⟨y145, hy145⟩ : ∃ y_ : List Int, y_ = (([2] : List Int)) := ⟨_, rfl⟩
  replace H : (some (([(⟨y136, y139⟩ : S53), (⟨y142, y145⟩ : S53)] : List (S53)))) = some r := by first | (rw [hy145]; with_reducible exact H) | (have H2_ := (Option.bind_some _ _).symm.trans H; rw [hy145]; with_reducible exact H2_) | (have H2_ := (Option.bind_some _ _).symm.trans H; with_reducible exact H2_) | with_reducible exact H | (rw [hy145]; exact H) | exact H
  have Ny145 := Aside0.mk hy145
  clear hy145
  obtain ⟨y148, hy148⟩ : ∃ y_ : List (S53), y_ = (([(⟨y136, y139⟩ : S53), (⟨y142, y145⟩ : S53)] : List (S53))) := ⟨_, rfl⟩
  replace H : (some y148) = some r := by first | (rw [hy148]; with_reducible exact H) | (have H2_ := (Option.bind_some _ _).symm.trans H; rw [hy148]; with_reducible exact H2_) | (have H2_ := (Option.bind_some _ _).symm.trans H; with_reducible exact H2_) | with_reducible exact H | (rw [hy148]; exact H) | exact H
  have Ny148 := Aside0.mk hy148
  clear hy148
  obtain rfl := Option.some.inj H
  go_enter Try.func52, Try.ntmps52
  go_wp2_with (first | ((with_reducible refine gate_dst (N := 1) rfl ?_); refine Kd.R_lit (Kd.int .i64) _ 3 ?hg (N := 1) ?hd (xs := ([0] : List Int)) (inner := [.int .i64 0]) (ok := fun _ => True) (okp := fun _ => True) ?hr ?hp (fun _ hk => hk) trivial (Below.refl _ _) (Nat.le_refl _) (by simp) ?_; (case hd => rfl); (case hg => rfl); (case hr => first | (go_simp; done) | (go_simp; rfl)); (case hp => exact (Reps.one (show Kd.M (Kd.int .i64) _ _ _ 0 [.int .i64 0] from rfl) (Reps.none _ _))); intro v137 w1 ho2 hb hg_ hnew_; clear hg_ hnew_; (first | rw [← Ny136.out] at ho2 | (simp only [Int.reduceToNat] at ho2; rw [← Ny136.out] at ho2)); have n0_ := Aside0.mk (Kd.R_lower (Kd.R_newM (M := fun k_ => (w.heap.size ≤ k_)) ho2 (below_size (by repeat (first | (with_reducible first | exact HB.out | apply below_alloc | apply pw_below_drewN | apply below_drew1) | exact HB.out))) (fun k_ h_ => h_)) (below_size (by repeat (first | (with_reducible first | exact HB.out | apply below_alloc | apply pw_below_drewN | apply below_drew1) | exact HB.out)))); have n1_ := Aside0.mk (below_step (by repeat (first | (with_reducible first | exact HB.out | apply below_alloc | apply pw_below_drewN | apply below_drew1) | exact HB.out)) hb); clear HB; have HO138 := n0_; have HB := n1_; clear n0_ n1_; clear hb ho2) | ((with_reducible refine gate_dst (N := 2) rfl ?_); refine Kd.R_lit (Kd.int .i64) _ 3 ?hg (N := 2) ?hd (xs := ([1] : List Int)) (inner := [.int .i64 1]) (ok := fun _ => True) (okp := fun _ => True) ?hr ?hp (fun _ hk => hk) trivial (Below.refl _ _) (Nat.le_refl _) (by simp) ?_; (case hd => rfl); (case hg => rfl); (case hr => first | (go_simp; done) | (go_simp; rfl)); (case hp => exact (Reps.one (show Kd.M (Kd.int .i64) _ _ _ 1 [.int .i64 1] from rfl) (Reps.none _ _))); intro v140 w3 ho4 hb hg_ hnew_; clear hg_ hnew_; (first | rw [← Ny139.out] at ho4 | (simp only [Int.reduceToNat] at ho4; rw [← Ny139.out] at ho4)); have n0_ := Aside0.mk (Kd.R_elder' (by (with_reducible repeat (first | apply Kd.R_alloc | apply Kd.R_drewN | apply Kd.R_drew)); exact HO138.out) (Kd.R_base ho4) hb); have n1_ := Aside0.mk (Kd.R_lower (Kd.R_new' (Kd.R_newM (M := fun k_ => (w.heap.size ≤ k_)) ho4 (below_size (by repeat (first | (with_reducible first | exact HB.out | apply below_alloc | apply pw_below_drewN | apply below_drew1) | exact HB.out))) (fun k_ h_ => h_)) (Kd.R_lt (by (with_reducible repeat (first | apply Kd.R_alloc | apply Kd.R_drewN | apply Kd.R_drew)); exact HO138.out))) (below_size (by repeat (first | (with_reducible first | exact HB.out | apply below_alloc | apply pw_below_drewN | apply below_drew1) | exact HB.out)))); have n2_ := Aside0.mk (below_step (by repeat (first | (with_reducible first | exact HB.out | apply below_alloc | apply pw_below_drewN | apply below_drew1) | exact HB.out)) hb); clear HO138; clear HB; have HO138 := n0_; have HO141 := n1_; have HB := n2_; clear n0_ n1_ n2_; clear hb ho4; obtain ⟨Ao5, co5, eo5⟩ := Kd.R_slice HO141.out; subst eo5; obtain ⟨Ao6, co6, eo6⟩ := Kd.R_slice HO138.out; subst eo6) | ((with_reducible refine gate_dst (N := 4) rfl ?_); refine Kd.R_lit (Kd.int .i64) _ 3 ?hg (N := 4) ?hd (xs := ([1] : List Int)) (inner := [.int .i64 1]) (ok := fun _ => True) (okp := fun _ => True) ?hr ?hp (fun _ hk => hk) trivial (Below.refl _ _) (Nat.le_refl _) (by simp) ?_; (case hd => rfl); (case hg => rfl); (case hr => first | (go_simp; done) | (go_simp; rfl)); (case hp => exact (Reps.one (show Kd.M (Kd.int .i64) _ _ _ 1 [.int .i64 1] from rfl) (Reps.none _ _))); intro v143 w7 ho8 hb hg_ hnew_; clear hg_ hnew_; (first | rw [← Ny142.out] at ho8 | (simp only [Int.reduceToNat] at ho8; rw [← Ny142.out] at ho8)); have n0_ := Aside0.mk (Kd.R_elder' (by (with_reducible repeat (first | apply Kd.R_alloc | apply Kd.R_drewN | apply Kd.R_drew)); exact HO138.out) (Kd.R_base ho8) hb); have n1_ := Aside0.mk (Kd.R_elder' (by (with_reducible repeat (first | apply Kd.R_alloc | apply Kd.R_drewN | apply Kd.R_drew)); exact HO141.out) (Kd.R_base ho8) hb); have n2_ := Aside0.mk (Kd.R_lower (Kd.R_new' (Kd.R_new' (Kd.R_newM (M := fun k_ => (w.heap.size ≤ k_)) ho8 (below_size (by repeat (first | (with_reducible first | exact HB.out | apply below_alloc | apply pw_below_drewN | apply below_drew1) | exact HB.out))) (fun k_ h_ => h_)) (Kd.R_lt (by (with_reducible repeat (first | apply Kd.R_alloc | apply Kd.R_drewN | apply Kd.R_drew)); exact HO138.out))) (Kd.R_lt (by (with_reducible repeat (first | apply Kd.R_alloc | apply Kd.R_drewN | apply Kd.R_drew)); exact HO141.out))) (below_size (by repeat (first | (with_reducible first | exact HB.out | apply below_alloc | apply pw_below_drewN | apply below_drew1) | exact HB.out)))); have n3_ := Aside0.mk (below_step (by repeat (first | (with_reducible first | exact HB.out | apply below_alloc | apply pw_below_drewN | apply below_drew1) | exact HB.out)) hb); clear HO138; clear HO141; clear HB; have HO138 := n0_; have HO141 := n1_; have HO144 := n2_; have HB := n3_; clear n0_ n1_ n2_ n3_; clear hb ho8) | ((with_reducible refine gate_dst (N := 5) rfl ?_); refine Kd.R_lit (Kd.int .i64) _ 3 ?hg (N := 5) ?hd (xs := ([2] : List Int)) (inner := [.int .i64 2]) (ok := fun _ => True) (okp := fun _ => True) ?hr ?hp (fun _ hk => hk) trivial (Below.refl _ _) (Nat.le_refl _) (by simp) ?_; (case hd => rfl); (case hg => rfl); (case hr => first | (go_simp; done) | (go_simp; rfl)); (case hp => exact (Reps.one (show Kd.M (Kd.int .i64) _ _ _ 2 [.int .i64 2] from rfl) (Reps.none _ _))); intro v146 w9 ho10 hb hg_ hnew_; clear hg_ hnew_; (first | rw [← Ny145.out] at ho10 | (simp only [Int.reduceToNat] at ho10; rw [← Ny145.out] at ho10)); have n0_ := Aside0.mk (Kd.R_elder' (by (with_reducible repeat (first | apply Kd.R_alloc | apply Kd.R_drewN | apply Kd.R_drew)); exact HO138.out) (Kd.R_base ho10) hb); have n1_ := Aside0.mk (Kd.R_elder' (by (with_reducible repeat (first | apply Kd.R_alloc | apply Kd.R_drewN | apply Kd.R_drew)); exact HO141.out) (Kd.R_base ho10) hb); have n2_ := Aside0.mk (Kd.R_elder' (by (with_reducible repeat (first | apply Kd.R_alloc | apply Kd.R_drewN | apply Kd.R_drew)); exact HO144.out) (Kd.R_base ho10) hb); have n3_ := Aside0.mk (Kd.R_lower (Kd.R_new' (Kd.R_new' (Kd.R_new' (Kd.R_newM (M := fun k_ => (w.heap.size ≤ k_)) ho10 (below_size (by repeat (first | (with_reducible first | exact HB.out | apply below_alloc | apply pw_below_drewN | apply below_drew1) | exact HB.out))) (fun k_ h_ => h_)) (Kd.R_lt (by (with_reducible repeat (first | apply Kd.R_alloc | apply Kd.R_drewN | apply Kd.R_drew)); exact HO138.out))) (Kd.R_lt (by (with_reducible repeat (first | apply Kd.R_alloc | apply Kd.R_drewN | apply Kd.R_drew)); exact HO141.out))) (Kd.R_lt (by (with_reducible repeat (first | apply Kd.R_alloc | apply Kd.R_drewN | apply Kd.R_drew)); exact HO144.out))) (below_size (by repeat (first | (with_reducible first | exact HB.out | apply below_alloc | apply pw_below_drewN | apply below_drew1) | exact HB.out)))); have n4_ := Aside0.mk (below_step (by repeat (first | (with_reducible first | exact HB.out | apply below_alloc | apply pw_below_drewN | apply below_drew1) | exact HB.out)) hb); clear HO138; clear HO141; clear HO144; clear HB; have HO138 := n0_; have HO141 := n1_; have HO144 := n2_; have HO147 := n3_; have HB := n4_; clear n0_ n1_ n2_ n3_ n4_; clear hb ho10; obtain ⟨Ao11, co11, eo11⟩ := Kd.R_slice HO147.out; subst eo11; obtain ⟨Ao12, co12, eo12⟩ := Kd.R_slice HO144.out; subst eo12) | ((with_reducible refine gate_dst (N := 7) rfl ?_); refine Kd.N_lit k53 _ 53 ?hg (N' := 7) ?hd (xs := ([(⟨y136, y139⟩ : S53), (⟨y142, y145⟩ : S53)] : List (S53))) (inner := [.slice Ao6 y136.length co6, .slice Ao5 y139.length co5, .slice Ao12 y142.length co12, .slice Ao11 y145.length co11]) (ok := (fun k_ => (w.heap.size ≤ k_))) (okp := (fun k_ => (w.heap.size ≤ k_))) ?hr ?hp (fun _ hk => hk) ((show ∀ k_, w9.heap.size ≤ k_ → (fun k_ => (w.heap.size ≤ k_)) k_ from fun k_ hk => (Nat.le_trans (below_size (by repeat (first | (with_reducible first | exact HB.out | apply below_alloc | apply pw_below_drewN | apply below_drew1) | exact HB.out))) hk)) _ (Nat.le_refl _)) (Below.refl _ _) (Nat.le_refl _) (by simp) ?_; (case hd => rfl); (case hg => rfl); (case hr => first | (go_simp; done) | (go_simp; rfl)); (case hp => exact (Reps.c2 (show Kd.FK k53 _ _ (⟨y136, y139⟩ : S53) [.slice Ao6 y136.length co6, .slice Ao5 y139.length co5] from (k53_mkF _ _ (⟨y136, y139⟩ : S53) (Kd.R_reads' (Kd.R_mono (ok' := (fun k_ => (w.heap.size ≤ k_))) (HO138.out) (fun k_ hk => hk.1.1.1.1))).2.1 (Kd.R_F (Kd.R_mono (ok' := (fun k_ => (w.heap.size ≤ k_))) (HO138.out) (fun k_ hk => hk.1.1.1.1))) (Kd.R_reads' (Kd.R_mono (ok' := (fun k_ => (w.heap.size ≤ k_))) (HO141.out) (fun k_ hk => hk.1.1.1.1))).2.1 (Kd.R_F (Kd.R_mono (ok' := (fun k_ => (w.heap.size ≤ k_))) (HO141.out) (fun k_ hk => hk.1.1.1.1))))) (Reps.c2 (show Kd.FK k53 _ _ (⟨y142, y145⟩ : S53) [.slice Ao12 y142.length co12, .slice Ao11 y145.length co11] from (k53_mkF _ _ (⟨y142, y145⟩ : S53) (Kd.R_reads' (Kd.R_mono (ok' := (fun k_ => (w.heap.size ≤ k_))) (HO144.out) (fun k_ hk => hk.1.1.1.1))).2.1 (Kd.R_F (Kd.R_mono (ok' := (fun k_ => (w.heap.size ≤ k_))) (HO144.out) (fun k_ hk => hk.1.1.1.1))) (Kd.R_reads' (Kd.R_mono (ok' := (fun k_ => (w.heap.size ≤ k_))) (HO147.out) (fun k_ hk => hk.1.1.1.1))).2.1 (Kd.R_F (Kd.R_mono (ok' := (fun k_ => (w.heap.size ≤ k_))) (HO147.out) (fun k_ hk => hk.1.1.1.1))))) (Reps.none _ _)))); intro v149 w13 ho14 hb hg_ hnew_; clear hg_ hnew_; (first | rw [← Ny148.out] at ho14 | (simp only [Int.reduceToNat] at ho14; rw [← Ny148.out] at ho14)); have n0_ := Aside0.mk (Kd.N_lower ho14 (below_size (by repeat (first | (with_reducible first | exact HB.out | apply below_alloc | apply pw_below_drewN | apply below_drew1) | exact HB.out)))); have n1_ := Aside0.mk (below_step (by repeat (first | (with_reducible first | exact HB.out | apply below_alloc | apply pw_below_drewN | apply below_drew1) | exact HB.out)) hb); clear HB; clear HO138; clear HO141; clear HO144; clear HO147; have HO150 := n0_; have HB := n1_; clear n0_ n1_; clear hb ho14))
  go_ret
  exact ⟨_, by first | rfl | (simp [errW_none, errW_some] <;> rfl) | (simp [*, errW_none, errW_some] <;> rfl), by (with_reducible repeat (first | apply Kd.N_alloc | apply Kd.N_drewN | apply Kd.N_drew)); exact HO150.out, by repeat (first | (with_reducible first | exact HB.out | apply below_alloc | apply pw_below_drewN | apply below_drew1) | exact HB.out)⟩

end Go.Proofs.Ytdbeochifofdoaa.X
end

section
/-! bad finds nothing just if the document's tells. -/
namespace Go.Proofs.Ytdbeochifofdoaa.X
open Go.RowKit Go.Proofs.YtdbeochifofdoaaW.PrintWords Go.Proofs.YtdbeochifofdoaaW.PrintLast
set_option linter.unusedVariables false
set_option linter.unusedSimpArgs false

theorem okP_pos {lots : Int} {l : List S53} (h : OkP lots l) : ∀ y, y ∈ l → (∀ x, x ∈ y.f0 → 0 ≤ x) ∧ ∀ x, x ∈ y.f1 → 0 ≤ x :=
  fun y hy => ⟨fun x hx => ((h.each y hy).left x hx).1, fun x hx => ((h.each y hy).right x hx).1⟩
end Go.Proofs.Ytdbeochifofdoaa.X
end

section
/-! weigh.classes. -/
namespace Go.Proofs.Ytdbeochifofdoaa.X
open Go.RowKit Go.Proofs.YtdbeochifofdoaaW.PrintWords Go.Proofs.YtdbeochifofdoaaW.PrintLast Go.Proofs.YtdbeochifofdoaaW.PrintMore
set_option linter.unusedVariables false
set_option linter.unusedSimpArgs false

def getk (m : S70) (k : Nat) : Int := if k = 0 then m.f0 else if k = 1 then m.f1 else m.f2
def setk (m : S70) (k : Nat) (n : Int) : S70 := if k = 0 then ⟨n, m.f1, m.f2⟩ else if k = 1 then ⟨m.f0, n, m.f2⟩ else ⟨m.f0, m.f1, n⟩
def cells3 (m : S70) : Array Value := #[.int .i64 m.f0, .int .i64 m.f1, .int .i64 m.f2]
theorem cells3_set (m : S70) (k : Nat) (hk : k < 3) (n : Int) : (cells3 m).setIfInBounds k (.int .i64 n) = cells3 (setk m k n) := by
  rcases (show k = 0 ∨ k = 1 ∨ k = 2 by omega) with rfl | rfl | rfl <;> simp [cells3, setk]
theorem cells3_get (m : S70) (k : Nat) (hk : k < 3) : (cells3 m)[k]? = some (.int .i64 (getk m k)) := by
  rcases (show k = 0 ∨ k = 1 ∨ k = 2 by omega) with rfl | rfl | rfl <;> simp [cells3, getk]
/-- The marks that the innermost loop appends from the number n on, d of them. -/
def exp3 (k : Nat) : Nat → Int → S70 → List S70
  | 0, _, _ => []
  | d + 1, n, m => setk m k n :: exp3 k d (n + 1) (setk m k n)
def expL (k : Nat) (l : List S70) : List S70 := l.flatMap (exp3 k 3 (-1))
/-- All marks of so many weighings, in their order. -/
def fullC : Nat → List S70
  | 0 => [z70]
  | k + 1 => expL k (fullC k)
def classC (w : Nat) : List S70 := (fullC w).drop ((fullC w).length / 2 + 1)
theorem exp3_len (k d : Nat) : ∀ n m, (exp3 k d n m).length = d := by
  induction d with
  | zero => intro n m; rfl
  | succ d ih => intro n m; simp [exp3, ih]
theorem expL_len (k : Nat) (l : List S70) : (expL k l).length = l.length * 3 := by
  induction l with
  | nil => rfl
  | cons x xs ih =>
    have : expL k (x :: xs) = exp3 k 3 (-1) x ++ expL k xs := rfl
    rw [this, List.length_append, exp3_len, ih, List.length_cons]; omega
theorem fullC_len (w : Nat) : (fullC w).length = 3 ^ w := by
  induction w with
  | zero => rfl
  | succ k ih => rw [fullC, expL_len, ih, Nat.pow_succ]

set_option maxHeartbeats 8000000 in
set_option maxRecDepth 100000 in
theorem classes_calls (n : Nat) (hn : n ≤ 3) (w : World) :
    Calls Try.prog 86 #[.int .i64 n] w fun e w' => ∃ (A : Option Addr) (c : Nat), e = .returned (.slice A (classC n).length c) ∧ (classC n).length ≤ c ∧ Kd.C k70 w' A (classC n).length (classC n) ∧ Below w.heap.size w w' := by
  go_enter Try.func86, Try.ntmps86
  go_wp2
  go_loopg [3, 12] n (fun gg v3 s wr => ∃ k : Nat, k ≤ n ∧ n - k ≤ gg ∧ s = .int .i64 k ∧ Aside0 (Kd.R k70 70 wr w.heap.size (fun _ => True) v3 (fullC k)) ∧ Aside0 (Below w.heap.size w wr))
  case atStart =>
    refine ⟨0, Nat.zero_le _, by omega, rfl, ⟨?_⟩, ⟨below_alloc (Below.refl _ _) _⟩⟩
    exact flat_R (fun _ _ => 0) 1 w.heap.size (blk_new w _) (Nat.le_refl _) (by omega)
  case round =>
    obtain ⟨k, hk, hg, rfl, HR, BW⟩ := hrel
    obtain ⟨A, c, rfl⟩ := Kd.R_slice HR.out
    obtain ⟨_, hLc, hC⟩ := Kd.R_reads' HR.out
    have hL27 : (fullC k).length ≤ 27 := by rw [fullC_len]; exact Nat.le_trans (Nat.pow_le_pow_right (by omega) (show k ≤ 3 by omega)) (by decide)
    by_cases hkn : k < n
    · have hknz : (k : Int) < (n : Int) := by omega
      have hk3 : k < 3 := by omega
      have HE := Aside0.mk (show expL k (fullC k) = fullC (k + 1) from rfl)
      have hL9 : (fullC k).length ≤ 9 := by rw [fullC_len]; exact Nat.le_trans (Nat.pow_le_pow_right (by omega) (show k ≤ 2 by omega)) (by decide)
      generalize fullC k = L at *
      have HC := Aside0.mk hC
      clear hC
      obtain ⟨wo, rfl⟩ : ∃ q : World, q = wr := ⟨_, rfl⟩
      obtain ⟨go, rfl⟩ : ∃ q : Nat, q = gk := ⟨_, rfl⟩
      go_wp2
      go_loopg [5, 17] L.length (fun gg v5 s wi => ∃ (i : Nat) (ys : List S70), i ≤ L.length ∧ L.length - i ≤ gg ∧ s = .int .i64 i ∧ Aside0 (Kd.R k70 70 wi wo.heap.size (fun _ => True) v5 ys) ∧ Aside0 (Below wo.heap.size wo wi) ∧ Aside0 (ys ++ expL k (L.drop i) = fullC (k + 1)))
      case atStart => exact ⟨0, [], Nat.zero_le _, by omega, rfl, ⟨Kd.R_nil _ _ _ _ _⟩, ⟨Below.refl _ _⟩, ⟨by rw [← HE.out]; simp⟩⟩
      case round =>
        obtain ⟨i, ys, hi, hgi, rfl, HO, BI, AI⟩ := hrel
        obtain ⟨Ay, cy, rfl⟩ := Kd.R_slice HO.out
        by_cases hil : i < L.length
        · have hilz : (i : Int) < (L.length : Int) := by omega
          obtain ⟨ad, e1, hx0, hx1, hx2⟩ := at_T70 HC.out i (by omega) hilz
          cases e1
          replace hx0 := (BI.out.cell (World.block_lt_of_cell? wo _ hx0)).trans hx0
          replace hx1 := (BI.out.cell (World.block_lt_of_cell? wo _ hx1)).trans hx1
          replace hx2 := (BI.out.cell (World.block_lt_of_cell? wo _ hx2)).trans hx2
          simp only [Int.toNat_natCast] at hx0 hx1 hx2
          rw [show rd_T70 L (i : Int) = L.getD i z70 from rfl] at hx0 hx1 hx2
          have Bi : Aside0 (expL k (L.drop i) = exp3 k 3 (-1) (L.getD i z70) ++ expL k (L.drop (i + 1))) := ⟨by rw [dropD z70 L i hil]; rfl⟩
          generalize L.getD i z70 = m at *
          obtain ⟨wp, rfl⟩ : ∃ q : World, q = wr := ⟨_, rfl⟩
          obtain ⟨gp, rfl⟩ : ∃ q : Nat, q = gk := ⟨_, rfl⟩
          have HWO : Aside0 (wo.heap.size ≤ wp.heap.size) := ⟨BI.out.size⟩
          go_wp2
          go_loopg [5, 8] 4 (fun gg v5 s wi => ∃ (d : Nat) (n0 : Int) (m1 : S70) (zs : List S70), d ≤ 3 ∧ d < gg ∧ n0 + d = 2 ∧ s = .int .i64 n0 ∧ Aside0 (wi.heap[wp.heap.size]? = some (.cells (cells3 m1) 70 (0, 0))) ∧ Aside0 (Kd.R k70 70 wi wo.heap.size (fun q => q ≠ wp.heap.size) v5 zs) ∧ Aside0 (Below wo.heap.size wo wi) ∧ Aside0 (wp.heap.size < wi.heap.size) ∧ Aside0 (zs ++ exp3 k d n0 m1 ++ expL k (L.drop (i + 1)) = fullC (k + 1)))
          case atStart =>
            refine ⟨3, -1, m, ys, by omega, by omega, by omega, rfl, ⟨blk_new _ _⟩, ⟨?_⟩, ⟨BI.out.alloc BI.out.size _⟩, ⟨by simp⟩, ⟨?_⟩⟩
            · exact Kd.R_alloc (Kd.R_mono (Kd.R_bound HO.out) (fun q hq => by have := hq.2.2.1; omega)) _
            · rw [← AI.out, Bi.out, List.append_assoc]
          case round =>
            clear HO BI hx0 hx1 hx2
            obtain ⟨d, n0, m1, zs, hd, hgd, hn0, rfl, HX, HO, BI, SZ, AZ⟩ := hrel
            obtain ⟨Az, cz, rfl⟩ := Kd.R_slice HO.out
            rcases d with _ | d
            · have hnn : 1 < n0 := by omega
              go_wp2
              go_roundg (L.length - (i + 1))
              case measure => omega
              case rel =>
                refine ⟨i + 1, zs, by omega, by omega, by go_num, ⟨Kd.R_mono HO.out (fun _ _ => trivial)⟩, BI, ⟨?_⟩⟩
                have h := AZ.out
                simpa [exp3] using h
            · have hnn : n0 ≤ 1 := by omega
              have hn1 : -1 ≤ n0 := by omega
              have hst : wr.cell? ⟨wp.heap.size, k, none⟩ = some (.int .i64 (getk m1 k)) := (blk_cell HX.out _).trans (cells3_get m1 k hk3)
              have hfz : wr.frozen? ⟨wp.heap.size, k, none⟩ = false := blk_frozen HX.out _
              go_upto_region 13 with (fail)
              have hX1 := blk_set HX.out k (.int .i64 n0)
              rw [cells3_set m1 k hk3] at hX1
              have hO1 := Kd.R_far HO.out (p := ⟨wp.heap.size, k, none⟩) (fun q hq => hq) (.int .i64 n0)
              have hB1 := BI.out.setCell (p := ⟨wp.heap.size, k, none⟩) (by have := HWO.out; exact this) (.int .i64 n0)
              have hZ1 : wp.heap.size < (wr.setCell ⟨wp.heap.size, k, none⟩ (.int .i64 n0)).heap.size := by have := SZ.out; simpa using this
              have AZ1 : Aside0 (zs ++ [setk m1 k n0] ++ exp3 k d (n0 + 1) (setk m1 k n0) ++ expL k (L.drop (i + 1)) = fullC (k + 1)) := ⟨by rw [← AZ.out, exp3]; simp⟩
              have hzl : zs.length ≤ 27 := by
                have h := congrArg List.length AZ.out
                rw [fullC_len, List.length_append, List.length_append] at h
                have h3 : (3 : Nat) ^ (k + 1) ≤ 3 ^ 3 := Nat.pow_le_pow_right (by omega) (by omega)
                have h4 : (3 : Nat) ^ 3 = 27 := by decide
                omega
              generalize wr.setCell ⟨wp.heap.size, k, none⟩ (.int .i64 n0) = W1 at hX1 hO1 hB1 hZ1 ⊢
              generalize setk m1 k n0 = m2 at *
              have HX1 := Aside0.mk hX1
              have HO1 := Aside0.mk hO1
              have HB1 := Aside0.mk hB1
              have HZ1 := Aside0.mk hZ1
              have c0 := blk_cell hX1 0
              have c1 := blk_cell hX1 1
              have c2 := blk_cell hX1 2
              rw [show (cells3 m2)[0]? = some (.int .i64 m2.f0) from rfl] at c0
              rw [show (cells3 m2)[1]? = some (.int .i64 m2.f1) from rfl] at c1
              rw [show (cells3 m2)[2]? = some (.int .i64 m2.f2) from rfl] at c2
              clear hX1 hO1 hB1 hZ1 hst hfz HX HO BI SZ AZ
              go_wp2_with (first | (at_builtin; refine Kd.R_append k70 (w0 := wo) wo.heap.size rfl (.tmp 28) (.tmp 30) 59 70 (.agg #[.int .i64 0, .int .i64 0, .int .i64 0]) 24 rfl Try.underlying59 info70 rfl (by decide) (by omega) (.slice Az zs.length cz) zs m2 [.int .i64 m2.f0, .int .i64 m2.f1, .int .i64 m2.f2] (fun q => q ≠ wp.heap.size) (fun _ => False) rfl rfl (k70_mkM _ _ _ m2) (fun _ h => h.elim) ?aF HO1.out HB1.out HB1.out.size ?aL ?_))
              case aF => intro q hq; have := HZ1.out; omega
              case aL => omega
              intro v1 w3 hR3 hB3 hG3 _
              have hX3 := blk_grown HX1.out hG3 (Kd.R_away HO1.out (fun q hq => hq))
              have HX3 := Aside0.mk hX3
              have HR3 := Aside0.mk hR3
              have HB3 := Aside0.mk hB3
              have HZ3 : Aside0 (wp.heap.size < w3.heap.size) := ⟨blk_lt hX3⟩
              clear hX3 hR3 hB3 hG3
              go_wp2
              go_roundg (d + 1)
              case measure => omega
              case rel => exact ⟨d, n0 + 1, m2, _, by omega, by omega, by omega, rfl, HX3, HR3, HB3, HZ3, AZ1⟩
        · have hilz : ¬ (i : Int) < (L.length : Int) := by omega
          have hA : ys = fullC (k + 1) := by
            have h := AI.out
            rw [List.drop_eq_nil_of_le (by omega)] at h
            simpa [expL] using h
          have HYA := Aside0.mk hA
          clear hA
          go_wp2
          go_roundg (n - (k + 1))
          case measure => omega
          case rel =>
            refine ⟨k + 1, by omega, by omega, by go_num, ⟨?_⟩, ⟨BW.out.trans (BI.out.mono BW.out.size)⟩⟩
            rw [← HYA.out]
            exact Kd.R_lower HO.out BW.out.size
    · have hknz : ¬ (k : Int) < (n : Int) := by omega
      obtain rfl : k = n := by omega
      clear hC
      have hpos : 1 ≤ (fullC k).length := by rw [fullC_len]; exact Nat.one_le_pow _ _ (by decide)
      have hQ := Kd.Q_reads' (Kd.Q_drop (k := (fullC k).length / 2 + 1) (Kd.Q_of_R HR.out) (by omega))
      have HQ : Aside0 ((classC k).length = (fullC k).length - ((fullC k).length / 2 + 1) ∧ (fullC k).length - ((fullC k).length / 2 + 1) ≤ c - ((fullC k).length / 2 + 1) ∧ Kd.C k70 wr (if c = (fullC k).length / 2 + 1 then A else A.map (·.add (((fullC k).length / 2 + 1) * k70.sz))) (classC k).length (classC k)) := ⟨hQ.1.symm, by omega, hQ.2.2⟩
      clear hQ
      generalize hLn : (fullC k).length = ln at *
      have HLN := Aside0.mk hLn
      clear hLn
      by_cases hcc : c = ln / 2 + 1
      · rw [if_pos hcc] at HQ
        have hq : (ln / 2 + 1 : Nat) ≤ ln := by omega
        go_wp2
        all_goals first | (exfalso; omega) | skip
        all_goals go_ret
        all_goals refine ⟨A, c - (ln / 2 + 1), ?_, by rw [HQ.out.1]; exact HQ.out.2.1, HQ.out.2.2, BW.out⟩
        all_goals rw [HQ.out.1]
        all_goals first | rfl | (simp [hcc])
      · rw [if_neg hcc] at HQ
        go_wp2
        all_goals first | (exfalso; omega) | skip
        all_goals go_ret
        all_goals refine ⟨A.map (·.add ((ln / 2 + 1) * 3)), c - (ln / 2 + 1), ?_, by rw [HQ.out.1]; exact HQ.out.2.1, HQ.out.2.2, BW.out⟩
        all_goals rw [HQ.out.1]
        all_goals first | rfl | (simp [hcc])
end Go.Proofs.Ytdbeochifofdoaa.X
end

section
-- Written by a program of this session (wip/hook.py, which runs the kit's print.py with contracts proved by hand). Not trusted: Lean checks it.
namespace Go.Proofs.Ytdbeochifofdoaa.X
open Go.RowKit Go.Proofs.YtdbeochifofdoaaW.PrintWords Go.Proofs.YtdbeochifofdoaaW.PrintLast Go.Proofs.YtdbeochifofdoaaW.PrintMore
attribute [local go_sem] max2_int min2_int max_two min_two max_three min_three max_four min_four   -- for this text's walks alone
set_option linter.unusedVariables false
set_option linter.unusedSimpArgs false

/-! ### weigh_chosen: function 89 -/
def weigh_chosen.l0 : Nat → List (S70) → List (S70) → List Int → Int → Int → Option ((List (S70)))
  | 0, _, _, _, _, _ => none
  | k + 1, x0, x5, x8, x9, x10 => if x10 < x9 then (if 0 ≤ x10 then (if x10 < (x8.length : Int) then (if (rd x8 x10) = 1 then (if x10 < (x0.length : Int) then (if x5.length < 5864062014805 then (weigh_chosen.l0 k x0 (x5 ++ [(⟨(rd_T70 x0 x10).f0, (rd_T70 x0 x10).f1, (rd_T70 x0 x10).f2⟩ : S70)]) x8 x9 (wrap64 (x10 + 1))) else (none)) else (none)) else (if (rd x8 x10) = 2 then (if x10 < (x0.length : Int) then ((weigh_mark_times.f ((rd_T70 x0 x10).f0) ((rd_T70 x0 x10).f1) ((rd_T70 x0 x10).f2) (-1)).bind fun bt114 => (if x5.length < 5864062014805 then (weigh_chosen.l0 k x0 (x5 ++ [(⟨bt114.1, bt114.2.1, bt114.2.2⟩ : S70)]) x8 x9 (wrap64 (x10 + 1))) else (none))) else (none)) else (weigh_chosen.l0 k x0 x5 x8 x9 (wrap64 (x10 + 1))))) else (none)) else (none)) else (some x5)
def weigh_chosen.f (k : Nat) (l0 : List (S70)) (l1 : List Int) : Option ((List (S70))) := weigh_chosen.l0 k l0 ([] : List (S70)) l1 (l1.length : Int) 0
set_option maxHeartbeats 8000000 in
set_option maxRecDepth 100000 in
theorem weigh_chosen.calls (k : Nat) (A0 : Option Addr) (c0 : Nat) (l0 : List (S70)) (A1 : Option Addr) (c1 : Nat) (l1 : List Int) (r : List (S70)) (w : World) (hr0 : Kd.C k70 w A0 l0.length l0) (hc0 : l0.length ≤ c0) (hr1 : Kd.C (Kd.int .i64) w A1 l1.length l1) (hc1 : l1.length ≤ c1) (h : weigh_chosen.f k l0 l1 = some r) :
    Calls Try.prog 89 #[.slice A0 l0.length c0, .slice A1 l1.length c1] w fun e w' => ∃ v0_ : Value, e = .returned (v0_) ∧ Kd.R k70 70 w' w.heap.size (fun _ => True) v0_ r ∧ Below w.heap.size w w' := by
  have hu70 := Try.underlying70
  have HR0 := Aside0.mk hr0
  have HC0 := Aside0.mk hc0
  clear hr0 hc0
  have HR1 := Aside0.mk hr1
  have HC1 := Aside0.mk hc1
  clear hr1 hc1
  have HB := Aside0.mk (Below.refl w.heap.size w)
  have H : (weigh_chosen.l0 k l0 ([] : List (S70)) l1 (l1.length : Int) 0) = some r := h
  clear h
  have H' := Aside0.mk H
  clear H
  go_enter Try.func89, Try.ntmps89
  go_wp2
  go_loopg [5, 10] k (fun kq v5 v10 w' => ∃ (x5_1 : List (S70)) (x10_1 : Int), v10 = .int .i64 x10_1 ∧ Aside0 (weigh_chosen.l0 kq l0 x5_1 l1 (l1.length : Int) x10_1 = some r) ∧ Aside0 (kq ≤ k) ∧ Aside0 (Kd.R k70 70 w' w.heap.size (fun _ => True) v5 x5_1) ∧ Aside0 (Below w.heap.size w w'))
  case atStart => exact ⟨(([] : List (S70))), (0), (by first | rfl | (simp; done) | (simp [*]; done)), H', ⟨Nat.le_refl _⟩, ⟨by first | exact Kd.R_nil _ _ _ _ _ | exact Kd.N_nil _ _ _ _ _ | exact Kd.V_nil _ _ _ _ _ | exact Kd.Q_nil _ _ _ _ _ | exact Kd.S_nil _ _ _ _ _⟩, ⟨by repeat (first | (with_reducible first | exact HB.out | apply below_alloc | apply pw_below_drewN | apply below_drew1) | exact HB.out)⟩⟩
  case round =>
    clear H'
    try clear c1
    try clear p2
    obtain ⟨x5_1, x10_1, rfl, HA, HK1, HO_5, HB⟩ := hrel
    cases gk with
    | zero => exact absurd HA.out (by simp [weigh_chosen.l0])
    | succ k1 =>
      have H := HA.out
      clear HA
      simp only [weigh_chosen.l0] at H
      by_cases c3 : x10_1 < (l1.length : Int)
      · rw [if_pos c3] at H
        have c3b0 : decide (x10_1 < (l1.length : Int)) = true := decide_eq_true c3
        clear c3
        by_cases c4 : 0 ≤ x10_1
        · rw [if_pos c4] at H
          have c4b0 : decide (0 ≤ x10_1) = true := decide_eq_true c4
          clear c4
          by_cases c5 : x10_1 < (l1.length : Int)
          · rw [if_pos c5] at H
            have c5b0 : decide (x10_1 < (l1.length : Int)) = true := decide_eq_true c5
            clear c5
            by_cases c6 : (rd l1 x10_1) = 1
            · rw [if_pos c6] at H
              have c6b0 : ((rd l1 x10_1) == 1) = true := beq_iff_eq.mpr c6
              have c6b1 : ((rd l1 x10_1) != 1) = false := bne_eq_false_iff_eq.mpr c6
              clear c6
              by_cases c7 : x10_1 < (l0.length : Int)
              · rw [if_pos c7] at H
                have c7b0 : decide (x10_1 < (l0.length : Int)) = true := decide_eq_true c7
                clear c7
                by_cases c8 : x5_1.length < 5864062014805
                · rw [if_pos c8] at H
                  have LMc8 := Aside0.mk c8
                  clear c8
                  obtain ⟨y110, hy110⟩ : ∃ y_ : List (S70), y_ = (x5_1 ++ [(⟨(rd_T70 l0 x10_1).f0, (rd_T70 l0 x10_1).f1, (rd_T70 l0 x10_1).f2⟩ : S70)]) := ⟨_, rfl⟩
                  replace H : (weigh_chosen.l0 k1 l0 y110 l1 (l1.length : Int) (wrap64 (x10_1 + 1))) = some r := by first | (rw [hy110]; with_reducible exact H) | (have H2_ := (Option.bind_some _ _).symm.trans H; rw [hy110]; with_reducible exact H2_) | (have H2_ := (Option.bind_some _ _).symm.trans H; with_reducible exact H2_) | with_reducible exact H | (rw [hy110]; exact H) | exact H
                  have Ny110 := Aside0.mk hy110
                  clear hy110
                  have H' := Aside0.mk H
                  clear H
                  have p108 : 0 ≤ (x10_1 : Int) := of_decide_eq_true (by first | (with_reducible assumption) | assumption)
                  have q108 : x10_1 < (l1.length : Int) := of_decide_eq_true (by first | (with_reducible assumption) | assumption)
                  obtain ⟨ad108, e108, hx108_0⟩ := Kd.at_int HR1.out x10_1 p108 q108
                  cases e108
                  replace hx108_0 := (HB.out.cell (World.block_lt_of_cell? w _ hx108_0)).trans hx108_0
                  replace p108 := eq_true p108
                  replace q108 := eq_true q108
                  have p109 : 0 ≤ (x10_1 : Int) := of_decide_eq_true (by first | (with_reducible assumption) | assumption)
                  have q109 : x10_1 < (l0.length : Int) := of_decide_eq_true (by first | (with_reducible assumption) | assumption)
                  obtain ⟨ad109, e109, hx109_0, hx109_1, hx109_2⟩ := at_T70 HR0.out x10_1 p109 q109
                  cases e109
                  replace hx109_0 := (HB.out.cell (World.block_lt_of_cell? w _ hx109_0)).trans hx109_0
                  replace hx109_1 := (HB.out.cell (World.block_lt_of_cell? w _ hx109_1)).trans hx109_1
                  replace hx109_2 := (HB.out.cell (World.block_lt_of_cell? w _ hx109_2)).trans hx109_2
                  replace p109 := eq_true p109
                  replace q109 := eq_true q109
                  go_wp2_with (first | ((with_reducible refine gate_builtin (b := .append) (xs := #[.tmp 18, .tmp 23]) rfl ?_); at_builtin; refine Kd.R_append k70 (w0 := w) w.heap.size rfl (.tmp 18) (.tmp 23) 59 70 (.agg #[(.int .i64 0), (.int .i64 0), (.int .i64 0)]) 24 rfl Try.underlying59 info70 rfl (by decide) (by omega) u5 x5_1 (⟨(rd_T70 l0 x10_1).f0, (rd_T70 l0 x10_1).f1, (rd_T70 l0 x10_1).f2⟩ : S70) [.int .i64 ((rd_T70 l0 x10_1).f0), .int .i64 ((rd_T70 l0 x10_1).f1), .int .i64 ((rd_T70 l0 x10_1).f2)] (fun _ => True) (fun _ => False) rfl rfl ?aP (fun _ hk => hk.elim) ?aF ?aO ?aB ?aS ?aL ?_; (case aP => exact k70_mkM _ _ _ (⟨(rd_T70 l0 x10_1).f0, (rd_T70 l0 x10_1).f1, (rd_T70 l0 x10_1).f2⟩ : S70)); (case aB => exact (by repeat (first | (with_reducible first | exact HB.out | apply below_alloc | apply pw_below_drewN | apply below_drew1) | exact HB.out))); (case aF => exact (fun _ _ => trivial)); (case aO => exact (by (with_reducible repeat (first | apply Kd.R_alloc | apply Kd.R_drewN | apply Kd.R_drew)); exact HO_5.out)); (case aS => exact (below_size (by repeat (first | (with_reducible first | exact HB.out | apply below_alloc | apply pw_below_drewN | apply below_drew1) | exact HB.out)))); (case aL => have := LMc8.out; omega); intro v111 w9 ho hb hg hat; rw [← Ny110.out] at ho; have n0_ := Aside0.mk (hb); have n1_ := Aside0.mk (ho); clear HB; clear HO_5; have HB := n0_; have HO112 := n1_; clear n0_ n1_; clear ho hb hg hat))
                  go_roundg k1
                  case measure => have := HK1.out; omega
                  case rel => exact ⟨(y110), (wrap64 (x10_1 + 1)), (by first | rfl | (simp; done) | (simp [*]; done)), H', ⟨by have := HK1.out; omega⟩, ⟨by (with_reducible repeat (first | apply Kd.R_alloc | apply Kd.R_drewN | apply Kd.R_drew)); exact HO112.out⟩, ⟨by repeat (first | (with_reducible first | exact HB.out | apply below_alloc | apply pw_below_drewN | apply below_drew1) | exact HB.out)⟩⟩
                · rw [if_neg c8] at H
                  exact absurd H (by simp)
              · rw [if_neg c7] at H
                exact absurd H (by simp)
            · rw [if_neg c6] at H
              have c6b0 : ((rd l1 x10_1) == 1) = false := beq_eq_false_iff_ne.mpr c6
              have c6b1 : ((rd l1 x10_1) != 1) = true := bne_iff_ne.mpr c6
              by_cases c10 : (rd l1 x10_1) = 2
              · rw [if_pos c10] at H
                have c10b0 : ((rd l1 x10_1) == 2) = true := beq_iff_eq.mpr c10
                have c10b1 : ((rd l1 x10_1) != 2) = false := bne_eq_false_iff_eq.mpr c10
                clear c10
                by_cases c11 : x10_1 < (l0.length : Int)
                · rw [if_pos c11] at H
                  have c11b0 : decide (x10_1 < (l0.length : Int)) = true := decide_eq_true c11
                  clear c11
                  replace H := Option.bind_eq_some_iff.mp H
                  obtain ⟨⟨t114, t115, t116⟩, A120, H⟩ := H
                  replace H : (if x5_1.length < 5864062014805 then (weigh_chosen.l0 k1 l0 (x5_1 ++ [(⟨t114, t115, t116⟩ : S70)]) l1 (l1.length : Int) (wrap64 (x10_1 + 1))) else (none)) = some r := H
                  have A12 := Aside0.mk A120
                  clear A120
                  by_cases c13 : x5_1.length < 5864062014805
                  · rw [if_pos c13] at H
                    have LMc13 := Aside0.mk c13
                    clear c13
                    obtain ⟨y117, hy117⟩ : ∃ y_ : List (S70), y_ = (x5_1 ++ [(⟨t114, t115, t116⟩ : S70)]) := ⟨_, rfl⟩
                    replace H : (weigh_chosen.l0 k1 l0 y117 l1 (l1.length : Int) (wrap64 (x10_1 + 1))) = some r := by first | (rw [hy117]; with_reducible exact H) | (have H2_ := (Option.bind_some _ _).symm.trans H; rw [hy117]; with_reducible exact H2_) | (have H2_ := (Option.bind_some _ _).symm.trans H; with_reducible exact H2_) | with_reducible exact H | (rw [hy117]; exact H) | exact H
                    have Ny117 := Aside0.mk hy117
                    clear hy117
                    have H' := Aside0.mk H
                    clear H
                    have p108 : 0 ≤ (x10_1 : Int) := of_decide_eq_true (by first | (with_reducible assumption) | assumption)
                    have q108 : x10_1 < (l1.length : Int) := of_decide_eq_true (by first | (with_reducible assumption) | assumption)
                    obtain ⟨ad108, e108, hx108_0⟩ := Kd.at_int HR1.out x10_1 p108 q108
                    cases e108
                    replace hx108_0 := (HB.out.cell (World.block_lt_of_cell? w _ hx108_0)).trans hx108_0
                    replace p108 := eq_true p108
                    replace q108 := eq_true q108
                    have p113 : 0 ≤ (x10_1 : Int) := of_decide_eq_true (by first | (with_reducible assumption) | assumption)
                    have q113 : x10_1 < (l0.length : Int) := of_decide_eq_true (by first | (with_reducible assumption) | assumption)
                    obtain ⟨ad113, e113, hx113_0, hx113_1, hx113_2⟩ := at_T70 HR0.out x10_1 p113 q113
                    cases e113
                    replace hx113_0 := (HB.out.cell (World.block_lt_of_cell? w _ hx113_0)).trans hx113_0
                    replace hx113_1 := (HB.out.cell (World.block_lt_of_cell? w _ hx113_1)).trans hx113_1
                    replace hx113_2 := (HB.out.cell (World.block_lt_of_cell? w _ hx113_2)).trans hx113_2
                    replace p113 := eq_true p113
                    replace q113 := eq_true q113
                    go_wp2_with (first | ((with_reducible refine gate_callee (f := 94) rfl ?_); refine goesL_ (some 32) rfl rfl Try.func94 (by kernel_rfl) rfl #[.agg #[.int .i64 ((rd_T70 l0 x10_1).f0), .int .i64 ((rd_T70 l0 x10_1).f1), .int .i64 ((rd_T70 l0 x10_1).f2)], .int .i64 (-1)] rfl (by (try simp only [List.map_toArray, List.map_cons, List.map_nil]); first | done | rfl | (simp only [List.length_drop, List.length_take]; rfl)) ?_; (with_reducible refine (weigh_mark_times.calls ((rd_T70 l0 x10_1).f0) ((rd_T70 l0 x10_1).f1) ((rd_T70 l0 x10_1).f2) (-1) t114 t115 t116 _ A12.out).mono ?_); rintro e w14 ⟨rfl, hb⟩; refine ⟨_, rfl, ?_⟩; have n0_ := Aside0.mk (Kd.R_below (by (with_reducible repeat (first | apply Kd.R_alloc | apply Kd.R_drewN | apply Kd.R_drew)); exact HO_5.out) hb); have n1_ := Aside0.mk (below_step (by repeat (first | (with_reducible first | exact HB.out | apply below_alloc | apply pw_below_drewN | apply below_drew1) | exact HB.out)) hb); clear HO_5; clear HB; have HO_5 := n0_; have HB := n1_; clear n0_ n1_; (try clear hb); (try clear hb2); (try clear hk); (try clear hi)) | ((with_reducible refine gate_builtin (b := .append) (xs := #[.tmp 27, .tmp 33]) rfl ?_); at_builtin; refine Kd.R_append k70 (w0 := w) w.heap.size rfl (.tmp 27) (.tmp 33) 59 70 (.agg #[(.int .i64 0), (.int .i64 0), (.int .i64 0)]) 24 rfl Try.underlying59 info70 rfl (by decide) (by omega) u5 x5_1 (⟨t114, t115, t116⟩ : S70) [.int .i64 t114, .int .i64 t115, .int .i64 t116] (fun _ => True) (fun _ => False) rfl rfl ?aP (fun _ hk => hk.elim) ?aF ?aO ?aB ?aS ?aL ?_; (case aP => exact k70_mkM _ _ _ (⟨t114, t115, t116⟩ : S70)); (case aB => exact (by repeat (first | (with_reducible first | exact HB.out | apply below_alloc | apply pw_below_drewN | apply below_drew1) | exact HB.out))); (case aF => exact (fun _ _ => trivial)); (case aO => exact (by (with_reducible repeat (first | apply Kd.R_alloc | apply Kd.R_drewN | apply Kd.R_drew)); exact HO_5.out)); (case aS => exact (below_size (by repeat (first | (with_reducible first | exact HB.out | apply below_alloc | apply pw_below_drewN | apply below_drew1) | exact HB.out)))); (case aL => have := LMc13.out; omega); intro v118 w15 ho hb hg hat; rw [← Ny117.out] at ho; have n0_ := Aside0.mk (hb); have n1_ := Aside0.mk (ho); clear HB; clear HO_5; have HB := n0_; have HO119 := n1_; clear n0_ n1_; clear ho hb hg hat))
                    go_roundg k1
                    case measure => have := HK1.out; omega
                    case rel => exact ⟨(y117), (wrap64 (x10_1 + 1)), (by first | rfl | (simp; done) | (simp [*]; done)), H', ⟨by have := HK1.out; omega⟩, ⟨by (with_reducible repeat (first | apply Kd.R_alloc | apply Kd.R_drewN | apply Kd.R_drew)); exact HO119.out⟩, ⟨by repeat (first | (with_reducible first | exact HB.out | apply below_alloc | apply pw_below_drewN | apply below_drew1) | exact HB.out)⟩⟩
                  · rw [if_neg c13] at H
                    exact absurd H (by simp)
                · rw [if_neg c11] at H
                  exact absurd H (by simp)
              · rw [if_neg c10] at H
                have c10b0 : ((rd l1 x10_1) == 2) = false := beq_eq_false_iff_ne.mpr c10
                have c10b1 : ((rd l1 x10_1) != 2) = true := bne_iff_ne.mpr c10
                have H' := Aside0.mk H
                clear H
                have p108 : 0 ≤ (x10_1 : Int) := of_decide_eq_true (by first | (with_reducible assumption) | assumption)
                have q108 : x10_1 < (l1.length : Int) := of_decide_eq_true (by first | (with_reducible assumption) | assumption)
                obtain ⟨ad108, e108, hx108_0⟩ := Kd.at_int HR1.out x10_1 p108 q108
                cases e108
                replace hx108_0 := (HB.out.cell (World.block_lt_of_cell? w _ hx108_0)).trans hx108_0
                replace p108 := eq_true p108
                replace q108 := eq_true q108
                go_wp2
                go_roundg k1
                case measure => have := HK1.out; omega
                case rel => exact ⟨(x5_1), (wrap64 (x10_1 + 1)), (by first | rfl | (simp; done) | (simp [*]; done)), H', ⟨by have := HK1.out; omega⟩, ⟨by (with_reducible repeat (first | apply Kd.R_alloc | apply Kd.R_drewN | apply Kd.R_drew)); exact HO_5.out⟩, ⟨by repeat (first | (with_reducible first | exact HB.out | apply below_alloc | apply pw_below_drewN | apply below_drew1) | exact HB.out)⟩⟩
          · rw [if_neg c5] at H
            exact absurd H (by simp)
        · rw [if_neg c4] at H
          exact absurd H (by simp)
      · rw [if_neg c3] at H
        have c3b0 : decide (x10_1 < (l1.length : Int)) = false := decide_eq_false c3
        clear c3
        obtain rfl := Option.some.inj H
        go_wp2
        go_ret
        exact ⟨_, by first | rfl | (simp [errW_none, errW_some] <;> rfl) | (simp [*, errW_none, errW_some] <;> rfl), by (with_reducible repeat (first | apply Kd.R_alloc | apply Kd.R_drewN | apply Kd.R_drew)); exact HO_5.out, by repeat (first | (with_reducible first | exact HB.out | apply below_alloc | apply pw_below_drewN | apply below_drew1) | exact HB.out)⟩

end Go.Proofs.Ytdbeochifofdoaa.X
end

section
/-! weigh.possible. -/
namespace Go.Proofs.Ytdbeochifofdoaa.X
open Go.RowKit Go.Proofs.YtdbeochifofdoaaW.PrintWords Go.Proofs.YtdbeochifofdoaaW.PrintLast Go.Proofs.YtdbeochifofdoaaW.PrintMore
set_option linter.unusedVariables false
set_option linter.unusedSimpArgs false

def negm (m : S70) : S70 := ⟨wrap64 (m.f0 * -1), wrap64 (m.f1 * -1), wrap64 (m.f2 * -1)⟩
/-- The marks that are taken, as they are (1) or turned (2). -/
def chosenL : List S70 → List Int → List S70
  | m :: ms, x :: xs => if x = 1 then m :: chosenL ms xs else if x = 2 then negm m :: chosenL ms xs else chosenL ms xs
  | _, _ => []
theorem chosenL_len : ∀ (l : List S70) (c : List Int), (chosenL l c).length ≤ c.length
  | [], _ => by simp [chosenL]
  | m :: ms, [] => by simp [chosenL]
  | m :: ms, x :: xs => by
    have := chosenL_len ms xs
    unfold chosenL
    split
    · simp; omega
    · split <;> simp <;> omega

theorem chosen_l0 (l : List S70) (c : List Int) (hlc : c.length ≤ l.length) (hl : l.length ≤ 1000) (d : Nat) :
    ∀ (k i : Nat) (acc : List S70), i ≤ c.length → c.length - i = d → d < k → acc.length ≤ i → weigh_chosen.l0 k l acc c (c.length : Int) (i : Int) = some (acc ++ chosenL (l.drop i) (c.drop i)) := by
  induction d with
  | zero =>
    intro k i acc h1 h2 h3 h4
    obtain ⟨k, rfl⟩ : ∃ m, k = m + 1 := ⟨k - 1, by omega⟩
    simp only [weigh_chosen.l0]
    rw [if_neg (by omega), List.drop_eq_nil_of_le (show c.length ≤ i by omega)]
    cases l.drop i <;> simp [chosenL]
  | succ d ih =>
    intro k i acc h1 h2 h3 h4
    obtain ⟨k, rfl⟩ : ∃ m, k = m + 1 := ⟨k - 1, by omega⟩
    simp only [weigh_chosen.l0]
    rw [if_pos (by omega), if_pos (by omega), if_pos (by omega), dropD z70 l i (by omega), dropD 0 c i (by omega), rd_nat]
    rw [show rd_T70 l (i : Int) = l.getD i z70 from rfl]
    have e1 : wrap64 ((i : Int) + 1) = ((i + 1 : Nat) : Int) := by rw [wr1 (by omega) (by omega)]; omega
    rw [e1]
    generalize l.getD i z70 = m
    generalize c.getD i 0 = x
    by_cases hx1 : x = 1
    · rw [if_pos hx1, if_pos (by omega), if_pos (by omega), ih k (i + 1) _ (by omega) (by omega) (by omega) (by simp; omega)]
      simp [chosenL, hx1]
    · rw [if_neg hx1]
      by_cases hx2 : x = 2
      · rw [if_pos hx2, if_pos (by omega)]
        simp only [weigh_mark_times.f, Option.bind_some]
        rw [if_pos (by omega), ih k (i + 1) _ (by omega) (by omega) (by omega) (by simp; omega)]
        simp [chosenL, hx2, negm]
      · rw [if_neg hx2, ih k (i + 1) _ (by omega) (by omega) (by omega) (by omega)]
        simp [chosenL, hx1, hx2]
theorem chosen_f (l : List S70) (c : List Int) (hlc : c.length ≤ l.length) (hl : l.length ≤ 1000) : weigh_chosen.f (c.length + 1) l c = some (chosenL l c) := by
  have h := chosen_l0 l c hlc hl c.length (c.length + 1) 0 [] (by omega) (by omega) (by omega) (by simp)
  unfold weigh_chosen.f
  rw [show ((0 : Nat) : Int) = 0 from rfl] at h
  rw [h]
  simp

def addm (a m : S70) : S70 := ⟨wrap64 (a.f0 + m.f0), wrap64 (a.f1 + m.f1), wrap64 (a.f2 + m.f2)⟩
def sumL (l : List S70) : S70 := l.foldl addm z70
def awayB (m x : Int) : Bool := !(decide (wrap64 (-m) ≤ x) && decide (x ≤ m))
/-- Can the choices for the first marks go on? -/
def possibleB (l : List S70) (c : List Int) (lots : Int) : Bool :=
  if lots - (chosenL l c).length < 0 ∨ (l.length : Int) - c.length < lots - (chosenL l c).length then false
  else !([(sumL (chosenL l c)).f0, (sumL (chosenL l c)).f1, (sumL (chosenL l c)).f2].any (awayB (lots - (chosenL l c).length)))

theorem slice70all (W : World) (B : Nat) : (Instr.sliceAt 70 (.pointer (some ⟨B, 0, none⟩)) none none none).run Try.prog W = .ok (.slice (some ⟨B, 0, none⟩) 3 3) W := by
  have h := run_sliceAt_array_all (P := Try.prog) W 70 ⟨B, 0, none⟩ (by kernel_rfl)
  rw [h, show Try.prog.elem 70 = 3 from by kernel_rfl, show Try.prog.arrayLen 70 = 3 from by kernel_rfl]
  have hs : (sizeOf 3).run Try.prog W = .ok 1 W := by kernel_rfl
  rw [hs]
  simp [Result.andThen, slicedAt, add_plain]
theorem index70_0 (a b c : Int) (W : World) : (Instr.index 70 (.agg #[.int .i64 a, .int .i64 b, .int .i64 c]) (.int .i64 0)).run Try.prog W = .ok (.int .i64 a) W := by kernel_rfl
theorem index70_1 (a b c : Int) (W : World) : (Instr.index 70 (.agg #[.int .i64 a, .int .i64 b, .int .i64 c]) (.int .i64 1)).run Try.prog W = .ok (.int .i64 b) W := by kernel_rfl
theorem index70_2 (a b c : Int) (W : World) : (Instr.index 70 (.agg #[.int .i64 a, .int .i64 b, .int .i64 c]) (.int .i64 2)).run Try.prog W = .ok (.int .i64 c) W := by kernel_rfl
theorem three_put {W : World} {g : Nat} {m : S70} (h : W.heap[g]? = some (.cells (cells3 m) 70 (0, 0))) (a b c : Int) :
    (((W.setCell ⟨g, 0, none⟩ (.int .i64 a)).setCell ⟨g, 1, none⟩ (.int .i64 b)).setCell ⟨g, 2, none⟩ (.int .i64 c)).heap[g]? = some (.cells (cells3 ⟨a, b, c⟩) 70 (0, 0)) :=
  blk_set (blk_set (blk_set h 0 _) 1 _) 2 _
theorem eg113 (args : Array Value) (w : World) : (callFunc 113 args).run Try.prog w = .ok (.enter 113 args) w := enters_of Try.func113 (by kernel_rfl) rfl args w

set_option maxHeartbeats 8000000 in
set_option maxRecDepth 100000 in
theorem possible_calls (A0 : Option Addr) (c0 : Nat) (l : List S70) (A1 : Option Addr) (c1 : Nat) (c : List Int) (lots : Int) (w : World) (hr0 : Kd.C k70 w A0 l.length l) (hc0 : l.length ≤ c0) (hr1 : (Kd.int .i64).C w A1 c.length c) (hc1 : c.length ≤ c1)
    (hlc : c.length ≤ l.length) (hl : l.length ≤ 13) (hlo : 0 ≤ lots) (hhi : lots ≤ 13) :
    Calls Try.prog 88 #[.slice A0 l.length c0, .slice A1 c.length c1, .int .i64 lots] w fun e w' => e = .returned (.bool (possibleB l c lots)) ∧ Below w.heap.size w w' := by
  have HR0 := Aside0.mk hr0
  have HR1 := Aside0.mk hr1
  have HC0 := Aside0.mk hc0
  have HC1 := Aside0.mk hc1
  have HF := Aside0.mk (chosen_f l c hlc (by omega))
  have hol : (chosenL l c).length ≤ 13 := Nat.le_trans (chosenL_len l c) (by omega)
  obtain ⟨q, hq⟩ : ∃ q, q = possibleB l c lots := ⟨_, rfl⟩
  rw [← hq]
  unfold possibleB at hq
  generalize chosenL l c = own at *
  have HQ := Aside0.mk hq
  clear hr0 hr1 hc0 hc1 hq
  go_enter Try.func88, Try.ntmps88
  go_wp2_with fail
  refine (weigh_chosen.calls _ A0 c0 l A1 c1 c own _ HR0.out HC0.out HR1.out HC1.out HF.out).mono ?_
  rintro e w1 ⟨v, rfl, hO, hb⟩
  obtain ⟨A, cc, rfl⟩ := Kd.R_slice hO
  obtain ⟨_, hoc, hC⟩ := Kd.R_reads' hO
  have HO := Aside0.mk hC
  have HB := Aside0.mk hb
  clear hO hC hb
  by_cases h1 : lots - (own.length : Int) < 0
  · have HQ1 := Aside0.mk (show q = false by rw [HQ.out, if_pos (.inl h1)])
    go_wp2
    go_ret
    exact ⟨by rw [HQ1.out]; rfl, below_alloc HB.out _⟩
  by_cases h2 : (l.length : Int) - c.length < lots - own.length
  · have HQ1 := Aside0.mk (show q = false by rw [HQ.out, if_pos (.inr h2)])
    go_wp2
    go_ret
    exact ⟨by rw [HQ1.out]; rfl, below_alloc HB.out _⟩
  have HQ1 := Aside0.mk (show q = !([(sumL own).f0, (sumL own).f1, (sumL own).f2].any (awayB (lots - own.length))) by rw [HQ.out, if_neg (by omega)])
  clear HQ
  go_wp2
  generalize hS : sumL own = S at *
  have HS := Aside0.mk hS
  clear hS
  go_loopg [34] own.length (fun gg s wr => ∃ (i : Nat) (acc : S70), i ≤ own.length ∧ own.length - i ≤ gg ∧ s = .int .i64 i ∧ Aside0 (Below w1.heap.size w1 wr) ∧ Aside0 (wr.heap[w1.heap.size]? = some (.cells #[.int .i64 (lots - own.length)] 3 (0, 0))) ∧ Aside0 (wr.heap[w1.heap.size + 1]? = some (.cells (cells3 acc) 70 (0, 0))) ∧ Aside0 ((own.drop i).foldl addm acc = S))
  case atStart =>
    refine ⟨0, z70, Nat.zero_le _, by omega, rfl, ⟨below_alloc (below_alloc (Below.refl _ _) _) _⟩, ⟨blk_alloc (blk_new _ _) _⟩, ⟨?_⟩, ⟨by rw [← HS.out]; simp [sumL]⟩⟩
    have h := blk_new (w1.alloc (.cells #[.int .i64 (lots - own.length)] 3)) (.cells (cells3 z70) 70)
    rw [show (w1.alloc (.cells #[.int .i64 (lots - own.length)] 3)).heap.size = w1.heap.size + 1 from by simp] at h
    exact h
  case round =>
    obtain ⟨i, acc, hi, hg, rfl, BR, H8, H9, AS⟩ := hrel
    have c90 := blk_cell H9.out 0
    have c91 := blk_cell H9.out 1
    have c92 := blk_cell H9.out 2
    rw [show (cells3 acc)[0]? = some (.int .i64 acc.f0) from rfl] at c90
    rw [show (cells3 acc)[1]? = some (.int .i64 acc.f1) from rfl] at c91
    rw [show (cells3 acc)[2]? = some (.int .i64 acc.f2) from rfl] at c92
    have f90 := blk_frozen H9.out 0
    have f91 := blk_frozen H9.out 1
    have f92 := blk_frozen H9.out 2
    have sz9 : w1.heap.size + 1 < wr.heap.size := blk_lt H9.out
    have sz8 : w1.heap.size < wr.heap.size := by omega
    by_cases hil : i < own.length
    · have hilz : (i : Int) < (own.length : Int) := by omega
      obtain ⟨ad, e1, hx0, hx1, hx2⟩ := at_T70 HO.out i (by omega) hilz
      cases e1
      replace hx0 := (BR.out.cell (World.block_lt_of_cell? w1 _ hx0)).trans hx0
      replace hx1 := (BR.out.cell (World.block_lt_of_cell? w1 _ hx1)).trans hx1
      replace hx2 := (BR.out.cell (World.block_lt_of_cell? w1 _ hx2)).trans hx2
      simp only [Int.toNat_natCast] at hx0 hx1 hx2
      rw [show rd_T70 own (i : Int) = own.getD i z70 from rfl] at hx0 hx1 hx2
      have Bi : Aside0 (own.drop i = own.getD i z70 :: own.drop (i + 1)) := ⟨dropD _ _ i hil⟩
      generalize own.getD i z70 = m at *
      have i0 := index70_0 m.f0 m.f1 m.f2
      have i1 := index70_1 m.f0 m.f1 m.f2
      have i2 := index70_2 m.f0 m.f1 m.f2
      go_wp2
      go_rounds 4
      go_roundg (own.length - (i + 1))
      case measure => omega
      case rel =>
        refine ⟨i + 1, addm acc m, by omega, by omega, by go_num, ⟨?_⟩, ⟨?_⟩, ⟨?_⟩, ⟨?_⟩⟩
        · repeat (first | (with_reducible exact BR.out) | (with_reducible apply below_alloc) | (with_reducible refine below_set ?_ (Nat.le_succ _)))
        · repeat (first | (with_reducible exact H8.out) | (with_reducible refine blk_alloc ?_ _) | (with_reducible refine blk_far ?_ (by simp) _))
        · repeat (first | (with_reducible refine blk_alloc ?_ _) | exact three_put H9.out _ _ _)
        · rw [← AS.out, Bi.out]
          rfl
    · have hilz : ¬ (i : Int) < (own.length : Int) := by omega
      have hacc : acc = S := by
        have h := AS.out
        rw [List.drop_eq_nil_of_le (by omega)] at h
        exact h
      subst hacc
      have hsl := slice70all
      go_wp2_with fail
      refine (containsFunc97 113 #[.pointer (some ⟨w1.heap.size, 0, none⟩)] eg113 (awayB (lots - own.length)) (some ⟨w1.heap.size + 1, 0, none⟩) 3 [acc.f0, acc.f1, acc.f2] _ ?hr ?hp).mono ?_
      case hr => exact C_block (l := [acc.f0, acc.f1, acc.f2]) H9.out 3 (by simp) (by simp)
      case hp =>
        intro W x _ hbW
        exact lit113 x (lots - own.length) w1.heap.size W (blk_cell (blk_below H8.out hbW) 0)
      rintro e w' ⟨rfl, hb'⟩
      have HBn := Aside0.mk ((HB.out.trans (BR.out.mono HB.out.size)).trans (hb'.mono (Nat.le_trans HB.out.size BR.out.size)))
      clear hb' hsl c90 c91 c92 f90 f91 f92
      generalize hA : [acc.f0, acc.f1, acc.f2].any (awayB (lots - own.length)) = b at *
      go_wp2
      go_ret
      exact ⟨by rw [HQ1.out]; rfl, HBn.out⟩
end Go.Proofs.Ytdbeochifofdoaa.X
end

section
-- Written by a program of this session (wip/hook.py, which runs the kit's print.py with contracts proved by hand). Not trusted: Lean checks it.
namespace Go.Proofs.Ytdbeochifofdoaa.X
open Go.RowKit Go.Proofs.YtdbeochifofdoaaW.PrintWords Go.Proofs.YtdbeochifofdoaaW.PrintLast Go.Proofs.YtdbeochifofdoaaW.PrintMore
attribute [local go_sem] max2_int min2_int max_two min_two max_three min_three max_four min_four   -- for this text's walks alone
set_option linter.unusedVariables false
set_option linter.unusedSimpArgs false

/-! ### bits_Mul64: function 123 -/
def bits_Mul64.f (a0 : Int) (a1 : Int) : Option (Int × Int) := some (IntKind.u64.wrap ((IntKind.u64.wrap ((IntKind.u64.wrap ((a0 / 4294967296) * (a1 / 4294967296))) + ((IntKind.u64.wrap ((IntKind.u64.wrap ((a0 / 4294967296) * (Go.bits .and .u64 a1 4294967295))) + ((IntKind.u64.wrap ((Go.bits .and .u64 a0 4294967295) * (Go.bits .and .u64 a1 4294967295))) / 4294967296))) / 4294967296))) + ((IntKind.u64.wrap ((Go.bits .and .u64 (IntKind.u64.wrap ((IntKind.u64.wrap ((a0 / 4294967296) * (Go.bits .and .u64 a1 4294967295))) + ((IntKind.u64.wrap ((Go.bits .and .u64 a0 4294967295) * (Go.bits .and .u64 a1 4294967295))) / 4294967296))) 4294967295) + (IntKind.u64.wrap ((Go.bits .and .u64 a0 4294967295) * (a1 / 4294967296))))) / 4294967296)), IntKind.u64.wrap (a0 * a1))
set_option maxHeartbeats 8000000 in
set_option maxRecDepth 100000 in
theorem bits_Mul64.calls (a0 : Int) (a1 : Int) (r1 : Int) (r2 : Int) (w : World) (h : bits_Mul64.f a0 a1 = some (r1, r2)) :
    Calls Try.prog 123 #[.int .u64 a0, .int .u64 a1] w fun e w' => e = .returned (.tuple #[.int .u64 r1, .int .u64 r2]) ∧ Drawn0 w w' := by
  have H : (some (IntKind.u64.wrap ((IntKind.u64.wrap ((IntKind.u64.wrap ((a0 / 4294967296) * (a1 / 4294967296))) + ((IntKind.u64.wrap ((IntKind.u64.wrap ((a0 / 4294967296) * (Go.bits .and .u64 a1 4294967295))) + ((IntKind.u64.wrap ((Go.bits .and .u64 a0 4294967295) * (Go.bits .and .u64 a1 4294967295))) / 4294967296))) / 4294967296))) + ((IntKind.u64.wrap ((Go.bits .and .u64 (IntKind.u64.wrap ((IntKind.u64.wrap ((a0 / 4294967296) * (Go.bits .and .u64 a1 4294967295))) + ((IntKind.u64.wrap ((Go.bits .and .u64 a0 4294967295) * (Go.bits .and .u64 a1 4294967295))) / 4294967296))) 4294967295) + (IntKind.u64.wrap ((Go.bits .and .u64 a0 4294967295) * (a1 / 4294967296))))) / 4294967296)), IntKind.u64.wrap (a0 * a1))) = some (r1, r2) := h
  clear h
  simp only [Option.some.injEq, Prod.mk.injEq] at H
  obtain ⟨rfl, rfl⟩ := H
  go_enter Try.func123, Try.ntmps123
  go_wp2
  go_ret2
  exact ⟨by first | rfl | (simp; done) | (simp [*]; done), by repeat (first | exact Drawn0.refl _ | apply Drawn0.step)⟩

/-! ### bits_Mul: function 112 -/
def bits_Mul.f (a0 : Int) (a1 : Int) : Option (Int × Int) := (bits_Mul64.f a0 a1).bind fun bt106 => (some (bt106.1, bt106.2))
set_option maxHeartbeats 8000000 in
set_option maxRecDepth 100000 in
theorem bits_Mul.calls (a0 : Int) (a1 : Int) (r1 : Int) (r2 : Int) (w : World) (h : bits_Mul.f a0 a1 = some (r1, r2)) :
    Calls Try.prog 112 #[.int .u64 a0, .int .u64 a1] w fun e w' => e = .returned (.tuple #[.int .u64 r1, .int .u64 r2]) ∧ Drawn0 w w' := by
  have H : ((bits_Mul64.f a0 a1).bind fun bt106 => (some (bt106.1, bt106.2))) = some (r1, r2) := h
  clear h
  replace H := Option.bind_eq_some_iff.mp H
  obtain ⟨⟨t106, t107⟩, A30, H⟩ := H
  replace H : (some (t106, t107)) = some (r1, r2) := H
  have A3 := Aside0.mk A30
  clear A30
  simp only [Option.some.injEq, Prod.mk.injEq] at H
  obtain ⟨rfl, rfl⟩ := H
  go_enter Try.func112, Try.ntmps112
  go_wp2_with (first | ((with_reducible refine gate_callee (f := 123) rfl ?_); refine goesL_ (some 25) rfl rfl Try.func123 (by kernel_rfl) rfl #[.int .u64 a0, .int .u64 a1] rfl (by (try simp only [List.map_toArray, List.map_cons, List.map_nil]); first | done | rfl | (simp only [List.length_drop, List.length_take]; rfl)) ?_; (with_reducible refine (bits_Mul64.calls a0 a1 t106 t107 _ A3.out).mono ?_); rintro e w' ⟨rfl, ⟨nd, rfl⟩⟩; refine ⟨_, rfl, ?_⟩))
  go_ret2
  exact ⟨by first | rfl | (simp; done) | (simp [*]; done), by repeat (first | exact Drawn0.refl _ | apply Drawn0.step)⟩

-- NOT PRINTED: function 87 (weigh_choice)

-- GIVEN: function 94 (weigh_mark_times): YtdbeochifofdoaaG94

end Go.Proofs.Ytdbeochifofdoaa.X
end

section
/-! slices.Repeat of one number, up to thirteen times. -/
namespace Go.Proofs.Ytdbeochifofdoaa.X
open Go.RowKit Go.Proofs.YtdbeochifofdoaaW.PrintWords Go.Proofs.YtdbeochifofdoaaW.PrintLast Go.Proofs.YtdbeochifofdoaaW.PrintMore
set_option linter.unusedVariables false
set_option linter.unusedSimpArgs false

theorem mul_f : ∀ n : Fin 14, bits_Mul.f 1 ((n.val : Nat) : Int) = some (0, ((n.val : Nat) : Int)) := by decide +kernel
/-- n cells, the first k of them filled with x. -/
def fillL (x : Int) (n k : Nat) : List Value := List.replicate k (.int .i64 x) ++ List.replicate (n - k) (.int .i64 0)
theorem fillL_len (x : Int) (n k : Nat) (h : k ≤ n) : (fillL x n k).length = n := by simp [fillL]; omega
theorem fillL_get (x : Int) (n k j : Nat) (h : j < k) : (fillL x n k)[j]? = some (.int .i64 x) := by
  simp [fillL, List.getElem?_append, h]
theorem fillL_splice (x : Int) (n k m : Nat) (h : k + m ≤ n) : splice (fillL x n k) k (List.replicate m (.int .i64 x)) = fillL x n (k + m) := by
  unfold splice fillL
  rw [List.take_left' (by simp), List.length_replicate, List.drop_append, List.drop_replicate, List.length_replicate, List.drop_replicate]
  rw [show k - (k + m) = 0 by omega, List.replicate_zero, List.nil_append, ← List.append_assoc, List.replicate_append_replicate]
  congr 2
  omega

set_option maxHeartbeats 8000000 in
set_option maxRecDepth 100000 in
theorem repeat_calls (n : Nat) (hn : n ≤ 13) (x : Int) (b c : Nat) (w : World) (hx : w.cell? ⟨b, 0, none⟩ = some (.int .i64 x)) :
    Calls Try.prog 87 #[.slice (some ⟨b, 0, none⟩) 1 c, .int .i64 n] w fun e w' => ∃ v : Value, e = .returned v ∧ Kd.R (Kd.int .i64) 92 w' w.heap.size (fun _ => True) v (List.replicate n x) ∧ Below w.heap.size w w' := by
  have HF := Aside0.mk (mul_f ⟨n, by omega⟩)
  have hmk : ∀ W : World, (Instr.makeSlice 90 (.int .i64 (n : Int)) (.int .i64 (n : Int))).run Try.prog W = .ok (.slice (some ⟨W.heap.size, 0, none⟩) n n) (W.alloc (.cells (fillL x n 0).toArray 92)) := by
    intro W
    obtain ⟨i0, hi, hz0, hz1, hz2⟩ := info_parts info92
    have h := run_make (P := Try.prog) W 90 92 i0 _ Try.underlying90 hi hz0 .i64 .i64 (n : Int) (n : Int) (by omega) (by omega) (by rw [hz2]; omega) (by omega)
    simp only [Int.toNat_natCast] at h
    rw [hz1] at h
    rw [h]
    congr 3
    apply Array.ext_getElem?
    intro i
    simp only [fillL, List.replicate_zero, List.nil_append, Nat.sub_zero, madeCells, Nat.mul_one]
    by_cases hi : i < n
    · simp [hi, Value.cells, Nat.mod_one]
    · simp [hi]
  go_enter Try.func87, Try.ntmps87
  go_wp2_with fail
  refine (bits_Mul.calls 1 n 0 n _ HF.out).mono ?_
  rintro e w' ⟨rfl, ⟨nd, rfl⟩⟩
  have hd1 : decide ((n : Int) < 0) = false := decide_eq_false (by omega)
  have hd2 : decide ((9223372036854775807 : Int) < n) = false := decide_eq_false (by omega)
  have hsp := fillL_splice x n 0 (min 1 n) (by omega)
  have hbw : b < w.heap.size := World.block_lt_of_cell? w _ hx
  have HSP := Aside0.mk hsp
  clear hsp
  go_wp2_with (with_reducible refine wpList_copy_splice rfl (.tmp 31) (.tmp 32) 90 90 rfl 92 Try.underlying90 (by kernel_rfl) (some ⟨w.heap.size, 0, none⟩) (some ⟨b, 0, none⟩) n n 1 c rfl rfl w.heap.size 0 (fillL x n 0) 92 ?cg (List.replicate (min 1 n) (.int .i64 x)) ?cn ?cp ?cf ?c1 w.heap.size w ?cb (Nat.le_refl _) ?_)
  case cg => exact blk_new _ _
  case cn => simp [Nat.min_def]
  case cp =>
    intro h j v hj
    obtain ⟨hjl, hjv⟩ := List.getElem?_eq_some_iff.1 hj
    rw [List.length_replicate] at hjl
    obtain rfl : j = 0 := by omega
    rw [List.getElem_replicate] at hjv
    subst hjv
    exact (World.cell?_alloc_lt _ _ _ hbw).trans hx
  case cf => rw [fillL_len _ _ _ (by omega)]; simp; omega
  case c1 => intro v hv; rw [List.eq_of_mem_replicate hv]; rfl
  case cb => exact (pw_below_drewN (Below.refl _ _) _).alloc (Nat.le_refl _) _
  intro w2 hh hb
  rw [HSP.out, Nat.zero_add] at hh
  have HH := Aside0.mk (show w2.heap[w.heap.size]? = some (.cells (fillL x n (min 1 n)).toArray 92 (0, 0)) from hh.out)
  have HB := Aside0.mk hb
  clear hh hb hmk
  have hk1 : min 1 n ≤ n := Nat.min_le_right _ _
  have hk2 : 0 < n → 0 < min 1 n := by omega
  generalize min 1 n = k0 at *
  go_wp2
  go_loopg [8] n (fun gg s wr => ∃ k : Nat, k ≤ n ∧ (0 < n → 0 < k) ∧ n - k ≤ gg ∧ s = .int .i64 k ∧ Aside0 (wr.heap[w.heap.size]? = some (.cells (fillL x n k).toArray 92 (0, 0))) ∧ Aside0 (Below w.heap.size w wr))
  case atStart => exact ⟨k0, hk1, hk2, by omega, rfl, HH, HB⟩
  case round =>
    clear HH HB
    obtain ⟨k, hk, hkp, hg, rfl, HH, HB⟩ := hrel
    by_cases hkn : k < n
    · have hknz : (k : Int) < (n : Int) := by omega
      go_wp2
      have hm0 : k + min k (n - k) ≤ n := by omega
      have HSP2 := Aside0.mk (fillL_splice x n k (min k (n - k)) hm0)
      have hmp : 0 < min k (n - k) := by have := hkp (by omega); omega
      have hcs : ∀ v ∈ (List.replicate (min k (n - k)) (Value.int .i64 x)), v.oneCell' = true := fun v hv => by rw [List.eq_of_mem_replicate hv]; rfl
      have hcn : (List.replicate (min k (n - k)) (Value.int .i64 x)).length = Nat.min k (n - k) := by simp [Nat.min_def]
      have hpos : ∀ W : World, W.heap[w.heap.size]? = some (.cells (fillL x n k).toArray 92 (0, 0)) → 0 < (List.replicate (min k (n - k)) (Value.int .i64 x)).length → (some (⟨w.heap.size, k, none⟩ : Addr) = some ⟨w.heap.size, k, none⟩) ∧ ∃ ad, (some (⟨w.heap.size, 0, none⟩ : Addr)) = some ad ∧ ∀ j v, (List.replicate (min k (n - k)) (Value.int .i64 x))[j]? = some v → W.cell? (ad.add j) = some v := by
        intro W hW _
        refine ⟨rfl, _, rfl, fun j v hj => ?_⟩
        obtain ⟨hjl, hjv⟩ := List.getElem?_eq_some_iff.1 hj
        rw [List.length_replicate] at hjl
        rw [List.getElem_replicate] at hjv
        subst hjv
        rw [add_plain, blk_cell hW]
        have := fillL_get x n k j (by omega)
        simpa using this
      have hfit : k + (List.replicate (min k (n - k)) (Value.int .i64 x)).length ≤ (fillL x n k).length := by rw [fillL_len _ _ _ (by omega)]; simp; omega
      have HCS := Aside0.mk hcs
      have HCN := Aside0.mk hcn
      have HPO := Aside0.mk hpos
      have HFI := Aside0.mk hfit
      clear hcs hcn hpos hfit
      have hnk : ¬ n = k := by omega
      go_region_law (refine step_copy_splice rfl (.tmp 41) (.tmp 44) 90 90 rfl 92 Try.underlying90 (by kernel_rfl) (some ⟨w.heap.size, k, none⟩) (some ⟨w.heap.size, 0, none⟩) (n - k) (n - k) k n (by simp [Act.eval, Act.put]) (by simp [Act.eval, Act.put]) w.heap.size k (fillL x n k) 92 HH.out (List.replicate (min k (n - k)) (.int .i64 x)) HCN.out (HPO.out _ HH.out) HFI.out HCS.out w.heap.size w HB.out.drew (Nat.le_refl _) ?_; intro w2 hh hb)
      rw [HSP2.out] at hh
      have HH2 := Aside0.mk (show w2.heap[w.heap.size]? = some (.cells (fillL x n (k + min k (n - k))).toArray 92 (0, 0)) from hh.out)
      have HB2 := Aside0.mk hb
      clear hh hb HSP2 HCS HCN HPO HFI
      generalize min k (n - k) = m0 at *
      have HM1 := Aside0.mk hmp
      go_wp2
      go_roundg (n - (k + 1))
      case measure => omega
      case rel => exact ⟨k + m0, hm0, fun _ => by have := HM1.out; omega, by have := HM1.out; omega, by rw [show IntKind.i64.wrap ((k : Int) + (m0 : Int)) = ((k + m0 : Nat) : Int) from by rw [IntKind.wrap_i64]; omega], HH2, HB2⟩
    · have hknz : ¬ (k : Int) < (n : Int) := by omega
      obtain rfl : k = n := by omega
      go_wp2
      go_ret
      refine ⟨_, rfl, ?_, HB.out⟩
      refine Kd.R_of_own (xs := List.replicate k x) ?_ (fun _ _ => trivial)
      have h := HH.out
      rw [show fillL x k k = encs (Value.int .i64) (List.replicate k x) from by simp [fillL, encs]] at h
      refine ⟨by simp [encs], .inr ⟨w.heap.size, k, _, by simp, Nat.le_refl _, h, by simp, by unfold maxLen; omega, by simp [encs], ?_⟩⟩
      exact List.take_of_length_le (by simp [encs])
end Go.Proofs.Ytdbeochifofdoaa.X
end
