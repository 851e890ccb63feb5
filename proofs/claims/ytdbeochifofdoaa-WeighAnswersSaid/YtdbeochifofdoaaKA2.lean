/- The law WeighAnswers of the given program: which plans are valid, and the answers to a case.
Its conditions: none beyond the statement's own. Part 3 of 5 of the proof. -/
import Derived.Handy
import Derived.WalkSpells
import Derived.Shelf.Abstract
import Derived.Test.YtdbeochifofdoaaKA1
section
-- Written by a program of this session (wip/hook.py, which runs the kit's print.py with contracts proved by hand). Not trusted: Lean checks it.
namespace Go.Proofs.Ytdbeochifofdoaa.X
open Go.RowKit Go.Proofs.YtdbeochifofdoaaW.PrintWords Go.Proofs.YtdbeochifofdoaaW.PrintLast Go.Proofs.YtdbeochifofdoaaW.PrintMore
attribute [local go_sem] max2_int min2_int max_two min_two max_three min_three max_four min_four   -- for this text's walks alone
set_option linter.unusedVariables false
set_option linter.unusedSimpArgs false

/-! ### verditerref06_Validate: function 59 -/
mutual
def verditerref06_Validate.l0 : Nat → Int → List (S53) → Int → Option (Int)
  | 0, _, _, _ => none
  | k + 1, x0, x1, x5 => if x5 < (x1.length : Int) then (if 0 ≤ x5 then ((verditerref06_isSet.f k ((rd_T53 x1 x5).f0) x0).bind fun t186 => (if t186 = true then ((verditerref06_isSet.f k ((rd_T53 x1 x5).f1) x0).bind fun t188 => (verditerref06_Validate.j1 k x0 x1 x5 (!t188))) else (verditerref06_Validate.j1 k x0 x1 x5 true))) else (none)) else (some 0)
def verditerref06_Validate.j1 : Nat → Int → List (S53) → Int → Bool → Option (Int)
  | 0, _, _, _, _ => none
  | k + 1, x0, x1, x5, x36 => if x36 = true then (some 1) else (verditerref06_Validate.l1 k x0 x1 x5 0)
def verditerref06_Validate.l1 : Nat → Int → List (S53) → Int → Int → Option (Int)
  | 0, _, _, _, _ => none
  | k + 1, x0, x1, x5, x6 => if 0 ≤ x5 then (if x5 < (x1.length : Int) then (if x6 < (((rd_T53 x1 x5).f0).length : Int) then (if 0 ≤ x6 then ((verditerref06_has.f k ((rd_T53 x1 x5).f1) (rd ((rd_T53 x1 x5).f0) x6)).bind fun t193 => (if t193 = true then (some 6) else (verditerref06_Validate.l1 k x0 x1 x5 (wrap64 (x6 + 1))))) else (none)) else (if (((rd_T53 x1 x5).f0).length : Int) = (((rd_T53 x1 x5).f1).length : Int) then (verditerref06_Validate.l0 k x0 x1 (wrap64 (x5 + 1))) else (some 5))) else (none)) else (none)
end
def verditerref06_Validate.f (k : Nat) (a0 : Int) (l1 : List (S53)) : Option (Int) := (verditerref06_within.f a0 1 13).bind fun t184 => (if t184 = true then (if (l1.length : Int) > 3 then (some 3) else (verditerref06_Validate.l0 k a0 l1 0)) else (some 1))
theorem verditerref06_Validate.mono_l : ∀ k, (∀ y0 y1 y2, LeO (verditerref06_Validate.l0 k y0 y1 y2) (verditerref06_Validate.l0 (k + 1) y0 y1 y2)) ∧ (∀ y0 y1 y2 y3, LeO (verditerref06_Validate.j1 k y0 y1 y2 y3) (verditerref06_Validate.j1 (k + 1) y0 y1 y2 y3)) ∧ (∀ y0 y1 y2 y3, LeO (verditerref06_Validate.l1 k y0 y1 y2 y3) (verditerref06_Validate.l1 (k + 1) y0 y1 y2 y3))
  | 0 => ⟨fun _ _ _ r h => by simp [verditerref06_Validate.l0] at h, fun _ _ _ _ r h => by simp [verditerref06_Validate.j1] at h, fun _ _ _ _ r h => by simp [verditerref06_Validate.l1] at h⟩
  | k + 1 => by
    obtain ⟨ih0, ih1, ih2⟩ := verditerref06_Validate.mono_l k
    refine ⟨?_, ?_, ?_⟩
    · intro y0 y1 y2
      unfold verditerref06_Validate.l0
      repeat' first
      | (with_reducible exact ih0 _ _ _)
      | (with_reducible exact ih1 _ _ _ _)
      | (with_reducible exact ih2 _ _ _ _)
      | (with_reducible exact verditerref06_has.mono _ _ _)
      | (with_reducible exact verditerref06_isSet.mono _ _ _)
      | (with_reducible exact LeO.refl _)
      | (with_reducible exact LeO.none _)
      | (with_reducible refine LeO.ite ?_ ?_)
      | (with_reducible refine LeO.bind ?_ (fun _ => ?_))
      | exact ih0 _ _ _
      | exact ih1 _ _ _ _
      | exact ih2 _ _ _ _
      | exact verditerref06_has.mono _ _ _
      | exact verditerref06_isSet.mono _ _ _
      | exact LeO.none _
      | refine LeO.ite ?_ ?_
      | refine LeO.bind ?_ (fun _ => ?_)
    · intro y0 y1 y2 y3
      unfold verditerref06_Validate.j1
      repeat' first
      | (with_reducible exact ih0 _ _ _)
      | (with_reducible exact ih1 _ _ _ _)
      | (with_reducible exact ih2 _ _ _ _)
      | (with_reducible exact verditerref06_has.mono _ _ _)
      | (with_reducible exact verditerref06_isSet.mono _ _ _)
      | (with_reducible exact LeO.refl _)
      | (with_reducible exact LeO.none _)
      | (with_reducible refine LeO.ite ?_ ?_)
      | (with_reducible refine LeO.bind ?_ (fun _ => ?_))
      | exact ih0 _ _ _
      | exact ih1 _ _ _ _
      | exact ih2 _ _ _ _
      | exact verditerref06_has.mono _ _ _
      | exact verditerref06_isSet.mono _ _ _
      | exact LeO.none _
      | refine LeO.ite ?_ ?_
      | refine LeO.bind ?_ (fun _ => ?_)
    · intro y0 y1 y2 y3
      unfold verditerref06_Validate.l1
      repeat' first
      | (with_reducible exact ih0 _ _ _)
      | (with_reducible exact ih1 _ _ _ _)
      | (with_reducible exact ih2 _ _ _ _)
      | (with_reducible exact verditerref06_has.mono _ _ _)
      | (with_reducible exact verditerref06_isSet.mono _ _ _)
      | (with_reducible exact LeO.refl _)
      | (with_reducible exact LeO.none _)
      | (with_reducible refine LeO.ite ?_ ?_)
      | (with_reducible refine LeO.bind ?_ (fun _ => ?_))
      | exact ih0 _ _ _
      | exact ih1 _ _ _ _
      | exact ih2 _ _ _ _
      | exact verditerref06_has.mono _ _ _
      | exact verditerref06_isSet.mono _ _ _
      | exact LeO.none _
      | refine LeO.ite ?_ ?_
      | refine LeO.bind ?_ (fun _ => ?_)
theorem verditerref06_Validate.mono : ∀ a0 a1 k, LeO (verditerref06_Validate.f k a0 a1) (verditerref06_Validate.f (k + 1) a0 a1) := by
  intro a0 a1 k
  obtain ⟨ih0, ih1, ih2⟩ := verditerref06_Validate.mono_l k
  unfold verditerref06_Validate.f
  repeat' first
      | (with_reducible exact ih0 _ _ _)
      | (with_reducible exact ih1 _ _ _ _)
      | (with_reducible exact ih2 _ _ _ _)
      | (with_reducible exact verditerref06_has.mono _ _ _)
      | (with_reducible exact verditerref06_isSet.mono _ _ _)
      | (with_reducible exact LeO.refl _)
      | (with_reducible exact LeO.none _)
      | (with_reducible refine LeO.ite ?_ ?_)
      | (with_reducible refine LeO.bind ?_ (fun _ => ?_))
      | exact ih0 _ _ _
      | exact ih1 _ _ _ _
      | exact ih2 _ _ _ _
      | exact verditerref06_has.mono _ _ _
      | exact verditerref06_isSet.mono _ _ _
      | exact LeO.none _
      | refine LeO.ite ?_ ?_
      | refine LeO.bind ?_ (fun _ => ?_)
set_option maxHeartbeats 8000000 in
set_option maxRecDepth 100000 in
theorem verditerref06_Validate.calls (k : Nat) (a0 : Int) (A1 : Option Addr) (c1 : Nat) (l1 : List (S53)) (r : Int) (w : World) (hr1 : Kd.C k53 w A1 l1.length l1) (hc1 : l1.length ≤ c1) (h : verditerref06_Validate.f k a0 l1 = some r) :
    Calls Try.prog 59 #[.int .i64 a0, .slice A1 l1.length c1] w fun e w' => e = .returned (.int .i64 r) ∧ Drawn0 w w' := by
  have HR1 := Aside0.mk hr1
  have HC1 := Aside0.mk hc1
  clear hr1 hc1
  have H : ((verditerref06_within.f a0 1 13).bind fun t184 => (if t184 = true then (if (l1.length : Int) > 3 then (some 3) else (verditerref06_Validate.l0 k a0 l1 0)) else (some 1))) = some r := h
  clear h
  replace H := Option.bind_eq_some_iff.mp H
  obtain ⟨t184, A30, H⟩ := H
  replace H : (if t184 = true then (if (l1.length : Int) > 3 then (some 3) else (verditerref06_Validate.l0 k a0 l1 0)) else (some 1)) = some r := H
  have A3 := Aside0.mk A30
  clear A30
  by_cases c4 : t184 = true
  · subst c4
    have H1 : (if (l1.length : Int) > 3 then (some 3) else (verditerref06_Validate.l0 k a0 l1 0)) = some r := by rw [if_pos rfl] at H; exact H
    clear H
    have H := H1
    clear H1
    by_cases c5 : (l1.length : Int) > 3
    · rw [if_pos c5] at H
      have c5b0 : decide (3 < (l1.length : Int)) = true := decide_eq_true c5
      have c5b1 : decide (3 < l1.length) = true := decide_eq_true (by omega)
      clear c5
      obtain rfl := Option.some.inj H
      go_enter Try.func59, Try.ntmps59
      go_wp2_with (first | (go_at_call 82; (with_reducible refine (verditerref06_within.calls a0 1 13 true _ A3.out).mono ?_); rintro e w' ⟨rfl, ⟨nd, rfl⟩⟩; (try first | exact ⟨rfl, _, World.drewN_drewN _ _ _⟩ | exact ⟨rfl, _, Eq.trans (World.drewN_drewN _ _ _) (congrArg (World.drewN _) (Nat.add_assoc _ _ _))⟩)))
      repeat (go_quiet (first | (go_at_call 82; (with_reducible refine (verditerref06_within.calls a0 1 13 true _ A3.out).mono ?_); rintro e w' ⟨rfl, ⟨nd, rfl⟩⟩; (try first | exact ⟨rfl, _, World.drewN_drewN _ _ _⟩ | exact ⟨rfl, _, Eq.trans (World.drewN_drewN _ _ _) (congrArg (World.drewN _) (Nat.add_assoc _ _ _))⟩))); try go_wp2_with (first | (go_at_call 82; (with_reducible refine (verditerref06_within.calls a0 1 13 true _ A3.out).mono ?_); rintro e w' ⟨rfl, ⟨nd, rfl⟩⟩; (try first | exact ⟨rfl, _, World.drewN_drewN _ _ _⟩ | exact ⟨rfl, _, Eq.trans (World.drewN_drewN _ _ _) (congrArg (World.drewN _) (Nat.add_assoc _ _ _))⟩))))
      go_ret
      exact ⟨by first | rfl | (simp; done) | (simp [*]; done), by repeat (first | exact Drawn0.refl _ | apply Drawn0.step)⟩
    · rw [if_neg c5] at H
      have c5b0 : decide (3 < (l1.length : Int)) = false := decide_eq_false c5
      have c5b1 : decide (3 < l1.length) = false := decide_eq_false (by omega)
      clear c5
      have H' := Aside0.mk H
      clear H
      go_enter Try.func59, Try.ntmps59
      go_wp2_with (first | (go_at_call 82; (with_reducible refine (verditerref06_within.calls a0 1 13 true _ A3.out).mono ?_); rintro e w' ⟨rfl, ⟨nd, rfl⟩⟩; (try first | exact ⟨rfl, _, World.drewN_drewN _ _ _⟩ | exact ⟨rfl, _, Eq.trans (World.drewN_drewN _ _ _) (congrArg (World.drewN _) (Nat.add_assoc _ _ _))⟩)))
      repeat (go_quiet (first | (go_at_call 82; (with_reducible refine (verditerref06_within.calls a0 1 13 true _ A3.out).mono ?_); rintro e w' ⟨rfl, ⟨nd, rfl⟩⟩; (try first | exact ⟨rfl, _, World.drewN_drewN _ _ _⟩ | exact ⟨rfl, _, Eq.trans (World.drewN_drewN _ _ _) (congrArg (World.drewN _) (Nat.add_assoc _ _ _))⟩))); try go_wp2_with (first | (go_at_call 82; (with_reducible refine (verditerref06_within.calls a0 1 13 true _ A3.out).mono ?_); rintro e w' ⟨rfl, ⟨nd, rfl⟩⟩; (try first | exact ⟨rfl, _, World.drewN_drewN _ _ _⟩ | exact ⟨rfl, _, Eq.trans (World.drewN_drewN _ _ _) (congrArg (World.drewN _) (Nat.add_assoc _ _ _))⟩))))
      go_loopg [5] k (fun kq v5 w' => ∃ (x5_1 : Int), v5 = .int .i64 x5_1 ∧ Aside0 (verditerref06_Validate.l0 kq a0 l1 x5_1 = some r) ∧ Aside0 (kq ≤ k) ∧ Drawn0 w w')
      case atStart => exact ⟨(0), (by first | rfl | (simp; done) | (simp [*]; done)), H', ⟨Nat.le_refl _⟩, by repeat (first | exact Drawn0.refl _ | apply Drawn0.step)⟩
      case round =>
        clear H'
        try clear c1
        try clear p2
        try clear c4
        try clear c5
        try clear c5b0
        try clear c5b1
        obtain ⟨x5_1, rfl, HA, HK1, ⟨m1, rfl⟩⟩ := hrel
        cases gk with
        | zero => exact absurd HA.out (by simp [verditerref06_Validate.l0])
        | succ k1 =>
          have H := HA.out
          clear HA
          simp only [verditerref06_Validate.l0] at H
          by_cases c6 : x5_1 < (l1.length : Int)
          · rw [if_pos c6] at H
            have c6b0 : decide (x5_1 < (l1.length : Int)) = true := decide_eq_true c6
            clear c6
            have HC7 := Aside0.mk H
            clear H
            go_upto_region 8 with (fail)
            repeat (go_quiet (fail); go_upto_region 8 with (fail))
            go_cut [36] (fun v36 wc => ∃ (kq : Nat) (x36_6 : Bool), v36 = .bool x36_6 ∧ Aside0 (verditerref06_Validate.j1 kq a0 l1 x5_1 x36_6 = some r) ∧ Aside0 (kq ≤ k1) ∧ Drawn0 w wc)
            case first =>
              have H := HC7.out
              clear HC7
              by_cases c8 : 0 ≤ x5_1
              · rw [if_pos c8] at H
                have c8b0 : decide (0 ≤ x5_1) = true := decide_eq_true c8
                clear c8
                (first | rw [c8b0] | (simp only [i64_w, i32_w]; rw [c8b0]) | skip)
                replace H := Option.bind_eq_some_iff.mp H
                obtain ⟨t186, A90, H⟩ := H
                replace H : (if t186 = true then ((verditerref06_isSet.f k1 ((rd_T53 l1 x5_1).f1) a0).bind fun t188 => (verditerref06_Validate.j1 k1 a0 l1 x5_1 (!t188))) else (verditerref06_Validate.j1 k1 a0 l1 x5_1 true)) = some r := H
                have A9 := Aside0.mk A90
                clear A90
                by_cases c10 : t186 = true
                · subst c10
                  have H1 : ((verditerref06_isSet.f k1 ((rd_T53 l1 x5_1).f1) a0).bind fun t188 => (verditerref06_Validate.j1 k1 a0 l1 x5_1 (!t188))) = some r := by rw [if_pos rfl] at H; exact H
                  clear H
                  have H := H1
                  clear H1
                  replace H := Option.bind_eq_some_iff.mp H
                  obtain ⟨t188, A110, H⟩ := H
                  replace H : (verditerref06_Validate.j1 k1 a0 l1 x5_1 (!t188)) = some r := H
                  have A11 := Aside0.mk A110
                  clear A110
                  have H' := Aside0.mk H
                  clear H
                  have p185 : 0 ≤ (x5_1 : Int) := of_decide_eq_true (by first | (with_reducible assumption) | assumption)
                  have q185 : x5_1 < (l1.length : Int) := of_decide_eq_true (by first | (with_reducible assumption) | assumption)
                  obtain ⟨ad185, A185_0, c185_0, A185_1, c185_1, e185, hx185_0, hx185_1, hl185_0, hi185_0, hl185_1, hi185_1⟩ := at_T53 HR1.out x5_1 p185 q185
                  cases e185
                  have HR185_0 := Aside0.mk hi185_0
                  have HC185_0 := Aside0.mk hl185_0
                  clear hi185_0 hl185_0
                  have HR185_1 := Aside0.mk hi185_1
                  have HC185_1 := Aside0.mk hl185_1
                  clear hi185_1 hl185_1
                  replace p185 := eq_true p185
                  replace q185 := eq_true q185
                  go_wp2_with (first | (go_at_call 100; (with_reducible refine (verditerref06_isSet.calls k1 _ _ ((rd_T53 l1 x5_1).f0) a0 true _ ?side1 ?side2 A9.out).mono ?_); (case side1 => repeat (first | exact HR185_0.out | (with_reducible refine Kd.C_alloc ?_ _) | (with_reducible refine Kd.C_drewN ?_ _) | (with_reducible refine Kd.C_drew ?_))); (case side2 => exact HC185_0.out); rintro e w' ⟨rfl, ⟨nd, rfl⟩⟩; (try first | exact ⟨rfl, _, World.drewN_drewN _ _ _⟩ | exact ⟨rfl, _, Eq.trans (World.drewN_drewN _ _ _) (congrArg (World.drewN _) (Nat.add_assoc _ _ _))⟩); have p187 : 0 ≤ (x5_1 : Int) := of_decide_eq_true (by first | (with_reducible assumption) | assumption); have q187 : x5_1 < (l1.length : Int) := of_decide_eq_true (by first | (with_reducible assumption) | assumption); obtain ⟨ad187, A187_0, c187_0, A187_1, c187_1, e187, hx187_0, hx187_1, hl187_0, hi187_0, hl187_1, hi187_1⟩ := at_T53 HR1.out x5_1 p187 q187; obtain rfl : ad185 = ad187 := (by injection e187); have HR187_0 := Aside0.mk hi187_0; have HC187_0 := Aside0.mk hl187_0; clear hi187_0 hl187_0; have HR187_1 := Aside0.mk hi187_1; have HC187_1 := Aside0.mk hl187_1; clear hi187_1 hl187_1; replace p187 := eq_true p187; replace q187 := eq_true q187; have ea_ := Option.some.inj (hx185_0.symm.trans hx187_0); injection ea_ with ea_ en_ ec_; subst ea_; subst ec_; clear en_; have ea_ := Option.some.inj (hx185_1.symm.trans hx187_1); injection ea_ with ea_ en_ ec_; subst ea_; subst ec_; clear en_) | (go_at_call 100; (with_reducible refine (verditerref06_isSet.calls k1 _ _ ((rd_T53 l1 x5_1).f1) a0 t188 _ ?side1 ?side2 A11.out).mono ?_); (case side1 => repeat (first | exact HR187_1.out | (with_reducible refine Kd.C_alloc ?_ _) | (with_reducible refine Kd.C_drewN ?_ _) | (with_reducible refine Kd.C_drew ?_))); (case side2 => exact HC187_1.out); rintro e w' ⟨rfl, ⟨nd, rfl⟩⟩; (try first | exact ⟨rfl, _, World.drewN_drewN _ _ _⟩ | exact ⟨rfl, _, Eq.trans (World.drewN_drewN _ _ _) (congrArg (World.drewN _) (Nat.add_assoc _ _ _))⟩)))
                  repeat (go_quiet (first | (go_at_call 100; (with_reducible refine (verditerref06_isSet.calls k1 _ _ ((rd_T53 l1 x5_1).f0) a0 true _ ?side1 ?side2 A9.out).mono ?_); (case side1 => repeat (first | exact HR185_0.out | (with_reducible refine Kd.C_alloc ?_ _) | (with_reducible refine Kd.C_drewN ?_ _) | (with_reducible refine Kd.C_drew ?_))); (case side2 => exact HC185_0.out); rintro e w' ⟨rfl, ⟨nd, rfl⟩⟩; (try first | exact ⟨rfl, _, World.drewN_drewN _ _ _⟩ | exact ⟨rfl, _, Eq.trans (World.drewN_drewN _ _ _) (congrArg (World.drewN _) (Nat.add_assoc _ _ _))⟩); have p187 : 0 ≤ (x5_1 : Int) := of_decide_eq_true (by first | (with_reducible assumption) | assumption); have q187 : x5_1 < (l1.length : Int) := of_decide_eq_true (by first | (with_reducible assumption) | assumption); obtain ⟨ad187, A187_0, c187_0, A187_1, c187_1, e187, hx187_0, hx187_1, hl187_0, hi187_0, hl187_1, hi187_1⟩ := at_T53 HR1.out x5_1 p187 q187; obtain rfl : ad185 = ad187 := (by injection e187); have HR187_0 := Aside0.mk hi187_0; have HC187_0 := Aside0.mk hl187_0; clear hi187_0 hl187_0; have HR187_1 := Aside0.mk hi187_1; have HC187_1 := Aside0.mk hl187_1; clear hi187_1 hl187_1; replace p187 := eq_true p187; replace q187 := eq_true q187; have ea_ := Option.some.inj (hx185_0.symm.trans hx187_0); injection ea_ with ea_ en_ ec_; subst ea_; subst ec_; clear en_; have ea_ := Option.some.inj (hx185_1.symm.trans hx187_1); injection ea_ with ea_ en_ ec_; subst ea_; subst ec_; clear en_) | (go_at_call 100; (with_reducible refine (verditerref06_isSet.calls k1 _ _ ((rd_T53 l1 x5_1).f1) a0 t188 _ ?side1 ?side2 A11.out).mono ?_); (case side1 => repeat (first | exact HR187_1.out | (with_reducible refine Kd.C_alloc ?_ _) | (with_reducible refine Kd.C_drewN ?_ _) | (with_reducible refine Kd.C_drew ?_))); (case side2 => exact HC187_1.out); rintro e w' ⟨rfl, ⟨nd, rfl⟩⟩; (try first | exact ⟨rfl, _, World.drewN_drewN _ _ _⟩ | exact ⟨rfl, _, Eq.trans (World.drewN_drewN _ _ _) (congrArg (World.drewN _) (Nat.add_assoc _ _ _))⟩))); try go_wp2_with (first | (go_at_call 100; (with_reducible refine (verditerref06_isSet.calls k1 _ _ ((rd_T53 l1 x5_1).f0) a0 true _ ?side1 ?side2 A9.out).mono ?_); (case side1 => repeat (first | exact HR185_0.out | (with_reducible refine Kd.C_alloc ?_ _) | (with_reducible refine Kd.C_drewN ?_ _) | (with_reducible refine Kd.C_drew ?_))); (case side2 => exact HC185_0.out); rintro e w' ⟨rfl, ⟨nd, rfl⟩⟩; (try first | exact ⟨rfl, _, World.drewN_drewN _ _ _⟩ | exact ⟨rfl, _, Eq.trans (World.drewN_drewN _ _ _) (congrArg (World.drewN _) (Nat.add_assoc _ _ _))⟩); have p187 : 0 ≤ (x5_1 : Int) := of_decide_eq_true (by first | (with_reducible assumption) | assumption); have q187 : x5_1 < (l1.length : Int) := of_decide_eq_true (by first | (with_reducible assumption) | assumption); obtain ⟨ad187, A187_0, c187_0, A187_1, c187_1, e187, hx187_0, hx187_1, hl187_0, hi187_0, hl187_1, hi187_1⟩ := at_T53 HR1.out x5_1 p187 q187; obtain rfl : ad185 = ad187 := (by injection e187); have HR187_0 := Aside0.mk hi187_0; have HC187_0 := Aside0.mk hl187_0; clear hi187_0 hl187_0; have HR187_1 := Aside0.mk hi187_1; have HC187_1 := Aside0.mk hl187_1; clear hi187_1 hl187_1; replace p187 := eq_true p187; replace q187 := eq_true q187; have ea_ := Option.some.inj (hx185_0.symm.trans hx187_0); injection ea_ with ea_ en_ ec_; subst ea_; subst ec_; clear en_; have ea_ := Option.some.inj (hx185_1.symm.trans hx187_1); injection ea_ with ea_ en_ ec_; subst ea_; subst ec_; clear en_) | (go_at_call 100; (with_reducible refine (verditerref06_isSet.calls k1 _ _ ((rd_T53 l1 x5_1).f1) a0 t188 _ ?side1 ?side2 A11.out).mono ?_); (case side1 => repeat (first | exact HR187_1.out | (with_reducible refine Kd.C_alloc ?_ _) | (with_reducible refine Kd.C_drewN ?_ _) | (with_reducible refine Kd.C_drew ?_))); (case side2 => exact HC187_1.out); rintro e w' ⟨rfl, ⟨nd, rfl⟩⟩; (try first | exact ⟨rfl, _, World.drewN_drewN _ _ _⟩ | exact ⟨rfl, _, Eq.trans (World.drewN_drewN _ _ _) (congrArg (World.drewN _) (Nat.add_assoc _ _ _))⟩))))
                  go_meet
                  case rel => exact ⟨_, (!t188), (by first | rfl | (simp; done) | (simp [*]; done)), H', ⟨by have := HK1.out; first | omega | exact Nat.le_refl _⟩, by repeat (first | exact Drawn0.refl _ | apply Drawn0.step)⟩
                · replace c10 := Bool.eq_false_iff.mpr c10
                  subst c10
                  have H1 : (verditerref06_Validate.j1 k1 a0 l1 x5_1 true) = some r := by rw [if_neg (show ¬ (false = true) by decide)] at H; exact H
                  clear H
                  have H := H1
                  clear H1
                  have H' := Aside0.mk H
                  clear H
                  have p185 : 0 ≤ (x5_1 : Int) := of_decide_eq_true (by first | (with_reducible assumption) | assumption)
                  have q185 : x5_1 < (l1.length : Int) := of_decide_eq_true (by first | (with_reducible assumption) | assumption)
                  obtain ⟨ad185, A185_0, c185_0, A185_1, c185_1, e185, hx185_0, hx185_1, hl185_0, hi185_0, hl185_1, hi185_1⟩ := at_T53 HR1.out x5_1 p185 q185
                  cases e185
                  have HR185_0 := Aside0.mk hi185_0
                  have HC185_0 := Aside0.mk hl185_0
                  clear hi185_0 hl185_0
                  have HR185_1 := Aside0.mk hi185_1
                  have HC185_1 := Aside0.mk hl185_1
                  clear hi185_1 hl185_1
                  replace p185 := eq_true p185
                  replace q185 := eq_true q185
                  go_wp2_with (first | (go_at_call 100; (with_reducible refine (verditerref06_isSet.calls k1 _ _ ((rd_T53 l1 x5_1).f0) a0 false _ ?side1 ?side2 A9.out).mono ?_); (case side1 => repeat (first | exact HR185_0.out | (with_reducible refine Kd.C_alloc ?_ _) | (with_reducible refine Kd.C_drewN ?_ _) | (with_reducible refine Kd.C_drew ?_))); (case side2 => exact HC185_0.out); rintro e w' ⟨rfl, ⟨nd, rfl⟩⟩; (try first | exact ⟨rfl, _, World.drewN_drewN _ _ _⟩ | exact ⟨rfl, _, Eq.trans (World.drewN_drewN _ _ _) (congrArg (World.drewN _) (Nat.add_assoc _ _ _))⟩)))
                  repeat (go_quiet (first | (go_at_call 100; (with_reducible refine (verditerref06_isSet.calls k1 _ _ ((rd_T53 l1 x5_1).f0) a0 false _ ?side1 ?side2 A9.out).mono ?_); (case side1 => repeat (first | exact HR185_0.out | (with_reducible refine Kd.C_alloc ?_ _) | (with_reducible refine Kd.C_drewN ?_ _) | (with_reducible refine Kd.C_drew ?_))); (case side2 => exact HC185_0.out); rintro e w' ⟨rfl, ⟨nd, rfl⟩⟩; (try first | exact ⟨rfl, _, World.drewN_drewN _ _ _⟩ | exact ⟨rfl, _, Eq.trans (World.drewN_drewN _ _ _) (congrArg (World.drewN _) (Nat.add_assoc _ _ _))⟩))); try go_wp2_with (first | (go_at_call 100; (with_reducible refine (verditerref06_isSet.calls k1 _ _ ((rd_T53 l1 x5_1).f0) a0 false _ ?side1 ?side2 A9.out).mono ?_); (case side1 => repeat (first | exact HR185_0.out | (with_reducible refine Kd.C_alloc ?_ _) | (with_reducible refine Kd.C_drewN ?_ _) | (with_reducible refine Kd.C_drew ?_))); (case side2 => exact HC185_0.out); rintro e w' ⟨rfl, ⟨nd, rfl⟩⟩; (try first | exact ⟨rfl, _, World.drewN_drewN _ _ _⟩ | exact ⟨rfl, _, Eq.trans (World.drewN_drewN _ _ _) (congrArg (World.drewN _) (Nat.add_assoc _ _ _))⟩))))
                  go_meet
                  case rel => exact ⟨_, (true), (by first | rfl | (simp; done) | (simp [*]; done)), H', ⟨by have := HK1.out; first | omega | exact Nat.le_refl _⟩, by repeat (first | exact Drawn0.refl _ | apply Drawn0.step)⟩
              · rw [if_neg c8] at H
                exact absurd H (by simp)
            case rest =>
              clear HC7
              try clear c1
              try clear p1
              try clear q1
              try clear hx1
              try clear p2
              try clear c4
              try clear c5
              try clear c5b0
              try clear c5b1
              try clear c6
              try clear c6b0
              try clear c8
              try clear c8b0
              try clear c10
              try clear hx185_0
              try clear hx185_1
              try clear hx187_0
              try clear hx187_1
              try clear p185
              try clear p187
              try clear p2
              try clear q185
              try clear q187
              obtain ⟨kq, x36_6, rfl, HA, HJ6, ⟨mc6, rfl⟩⟩ := hcut
              cases kq with
              | zero => exact absurd HA.out (by simp [verditerref06_Validate.j1])
              | succ kj6 =>
                have H := HA.out
                clear HA
                simp only [verditerref06_Validate.j1] at H
                by_cases c12 : x36_6 = true
                · subst c12
                  have H1 : (some 1) = some r := by rw [if_pos rfl] at H; exact H
                  clear H
                  have H := H1
                  clear H1
                  obtain rfl := Option.some.inj H
                  go_wp2
                  repeat (go_quiet (fail); try go_wp2)
                  go_ret
                  exact ⟨by first | rfl | (simp; done) | (simp [*]; done), by repeat (first | exact Drawn0.refl _ | apply Drawn0.step)⟩
                · replace c12 := Bool.eq_false_iff.mpr c12
                  subst c12
                  have H1 : (verditerref06_Validate.l1 kj6 a0 l1 x5_1 0) = some r := by rw [if_neg (show ¬ (false = true) by decide)] at H; exact H
                  clear H
                  have H := H1
                  clear H1
                  have H' := Aside0.mk H
                  clear H
                  go_wp2
                  repeat (go_quiet (fail); try go_wp2)
                  go_loopg [6] kj6 (fun kq v6 w' => ∃ (x6_3 : Int), v6 = .int .i64 x6_3 ∧ Aside0 (verditerref06_Validate.l1 kq a0 l1 x5_1 x6_3 = some r) ∧ Aside0 (kq ≤ kj6) ∧ Drawn0 w w')
                  case atStart => exact ⟨(0), (by first | rfl | (simp; done) | (simp [*]; done)), H', ⟨Nat.le_refl _⟩, by repeat (first | exact Drawn0.refl _ | apply Drawn0.step)⟩
                  case round =>
                    clear H'
                    try clear c1
                    try clear p1
                    try clear q1
                    try clear hx1
                    try clear p2
                    try clear c4
                    try clear c5
                    try clear c5b0
                    try clear c5b1
                    try clear c6
                    try clear c6b0
                    try clear c8
                    try clear c8b0
                    try clear c10
                    try clear c12
                    try clear hx185_0
                    try clear hx185_1
                    try clear hx187_0
                    try clear hx187_1
                    try clear p1
                    try clear p185
                    try clear p187
                    try clear p2
                    try clear q1
                    try clear q185
                    try clear q187
                    obtain ⟨x6_3, rfl, HA, HK3, ⟨m3, rfl⟩⟩ := hrel
                    cases gk with
                    | zero => exact absurd HA.out (by simp [verditerref06_Validate.l1])
                    | succ k3 =>
                      have H := HA.out
                      clear HA
                      simp only [verditerref06_Validate.l1] at H
                      by_cases c13 : 0 ≤ x5_1
                      · rw [if_pos c13] at H
                        have c13b0 : decide (0 ≤ x5_1) = true := decide_eq_true c13
                        clear c13
                        by_cases c14 : x5_1 < (l1.length : Int)
                        · rw [if_pos c14] at H
                          have c14b0 : decide (x5_1 < (l1.length : Int)) = true := decide_eq_true c14
                          clear c14
                          by_cases c15 : x6_3 < (((rd_T53 l1 x5_1).f0).length : Int)
                          · rw [if_pos c15] at H
                            have c15b0 : decide (x6_3 < (((rd_T53 l1 x5_1).f0).length : Int)) = true := decide_eq_true c15
                            clear c15
                            by_cases c16 : 0 ≤ x6_3
                            · rw [if_pos c16] at H
                              have c16b0 : decide (0 ≤ x6_3) = true := decide_eq_true c16
                              clear c16
                              replace H := Option.bind_eq_some_iff.mp H
                              obtain ⟨t193, A170, H⟩ := H
                              replace H : (if t193 = true then (some 6) else (verditerref06_Validate.l1 k3 a0 l1 x5_1 (wrap64 (x6_3 + 1)))) = some r := H
                              have A17 := Aside0.mk A170
                              clear A170
                              by_cases c18 : t193 = true
                              · subst c18
                                have H1 : (some 6) = some r := by rw [if_pos rfl] at H; exact H
                                clear H
                                have H := H1
                                clear H1
                                obtain rfl := Option.some.inj H
                                have p189 : 0 ≤ (x5_1 : Int) := of_decide_eq_true (by first | (with_reducible assumption) | assumption)
                                have q189 : x5_1 < (l1.length : Int) := of_decide_eq_true (by first | (with_reducible assumption) | assumption)
                                obtain ⟨ad189, A189_0, c189_0, A189_1, c189_1, e189, hx189_0, hx189_1, hl189_0, hi189_0, hl189_1, hi189_1⟩ := at_T53 HR1.out x5_1 p189 q189
                                cases e189
                                have HR189_0 := Aside0.mk hi189_0
                                have HC189_0 := Aside0.mk hl189_0
                                clear hi189_0 hl189_0
                                have HR189_1 := Aside0.mk hi189_1
                                have HC189_1 := Aside0.mk hl189_1
                                clear hi189_1 hl189_1
                                replace p189 := eq_true p189
                                replace q189 := eq_true q189
                                have p190 : 0 ≤ (x5_1 : Int) := of_decide_eq_true (by first | (with_reducible assumption) | assumption)
                                have q190 : x5_1 < (l1.length : Int) := of_decide_eq_true (by first | (with_reducible assumption) | assumption)
                                obtain ⟨ad190, A190_0, c190_0, A190_1, c190_1, e190, hx190_0, hx190_1, hl190_0, hi190_0, hl190_1, hi190_1⟩ := at_T53 HR1.out x5_1 p190 q190
                                obtain rfl : ad189 = ad190 := (by injection e190)
                                have HR190_0 := Aside0.mk hi190_0
                                have HC190_0 := Aside0.mk hl190_0
                                clear hi190_0 hl190_0
                                have HR190_1 := Aside0.mk hi190_1
                                have HC190_1 := Aside0.mk hl190_1
                                clear hi190_1 hl190_1
                                replace p190 := eq_true p190
                                replace q190 := eq_true q190
                                have ea_ := Option.some.inj (hx189_0.symm.trans hx190_0)
                                injection ea_ with ea_ en_ ec_
                                subst ea_
                                subst ec_
                                clear en_
                                have ea_ := Option.some.inj (hx189_1.symm.trans hx190_1)
                                injection ea_ with ea_ en_ ec_
                                subst ea_
                                subst ec_
                                clear en_
                                have p191 : 0 ≤ (x5_1 : Int) := of_decide_eq_true (by first | (with_reducible assumption) | assumption)
                                have q191 : x5_1 < (l1.length : Int) := of_decide_eq_true (by first | (with_reducible assumption) | assumption)
                                obtain ⟨ad191, A191_0, c191_0, A191_1, c191_1, e191, hx191_0, hx191_1, hl191_0, hi191_0, hl191_1, hi191_1⟩ := at_T53 HR1.out x5_1 p191 q191
                                obtain rfl : ad189 = ad191 := (by injection e191)
                                have HR191_0 := Aside0.mk hi191_0
                                have HC191_0 := Aside0.mk hl191_0
                                clear hi191_0 hl191_0
                                have HR191_1 := Aside0.mk hi191_1
                                have HC191_1 := Aside0.mk hl191_1
                                clear hi191_1 hl191_1
                                replace p191 := eq_true p191
                                replace q191 := eq_true q191
                                have ea_ := Option.some.inj (hx189_0.symm.trans hx191_0)
                                injection ea_ with ea_ en_ ec_
                                subst ea_
                                subst ec_
                                clear en_
                                have ea_ := Option.some.inj (hx189_1.symm.trans hx191_1)
                                injection ea_ with ea_ en_ ec_
                                subst ea_
                                subst ec_
                                clear en_
                                have p192 : 0 ≤ (x6_3 : Int) := of_decide_eq_true (by first | (with_reducible assumption) | assumption)
                                have q192 : x6_3 < (((rd_T53 l1 x5_1).f0).length : Int) := of_decide_eq_true (by first | (with_reducible assumption) | assumption)
                                obtain ⟨ad192, e192, hx192_0⟩ := Kd.at_int HR191_0.out x6_3 p192 q192
                                cases e192
                                replace p192 := eq_true p192
                                replace q192 := eq_true q192
                                go_wp2_with (first | (go_at_call 101; (with_reducible refine (verditerref06_has.calls k3 _ _ ((rd_T53 l1 x5_1).f1) (rd ((rd_T53 l1 x5_1).f0) x6_3) true _ ?side1 ?side2 A17.out).mono ?_); (case side1 => repeat (first | exact HR190_1.out | (with_reducible refine Kd.C_alloc ?_ _) | (with_reducible refine Kd.C_drewN ?_ _) | (with_reducible refine Kd.C_drew ?_))); (case side2 => exact HC190_1.out); rintro e w' ⟨rfl, ⟨nd, rfl⟩⟩; (try first | exact ⟨rfl, _, World.drewN_drewN _ _ _⟩ | exact ⟨rfl, _, Eq.trans (World.drewN_drewN _ _ _) (congrArg (World.drewN _) (Nat.add_assoc _ _ _))⟩)))
                                repeat (go_quiet (first | (go_at_call 101; (with_reducible refine (verditerref06_has.calls k3 _ _ ((rd_T53 l1 x5_1).f1) (rd ((rd_T53 l1 x5_1).f0) x6_3) true _ ?side1 ?side2 A17.out).mono ?_); (case side1 => repeat (first | exact HR190_1.out | (with_reducible refine Kd.C_alloc ?_ _) | (with_reducible refine Kd.C_drewN ?_ _) | (with_reducible refine Kd.C_drew ?_))); (case side2 => exact HC190_1.out); rintro e w' ⟨rfl, ⟨nd, rfl⟩⟩; (try first | exact ⟨rfl, _, World.drewN_drewN _ _ _⟩ | exact ⟨rfl, _, Eq.trans (World.drewN_drewN _ _ _) (congrArg (World.drewN _) (Nat.add_assoc _ _ _))⟩))); try go_wp2_with (first | (go_at_call 101; (with_reducible refine (verditerref06_has.calls k3 _ _ ((rd_T53 l1 x5_1).f1) (rd ((rd_T53 l1 x5_1).f0) x6_3) true _ ?side1 ?side2 A17.out).mono ?_); (case side1 => repeat (first | exact HR190_1.out | (with_reducible refine Kd.C_alloc ?_ _) | (with_reducible refine Kd.C_drewN ?_ _) | (with_reducible refine Kd.C_drew ?_))); (case side2 => exact HC190_1.out); rintro e w' ⟨rfl, ⟨nd, rfl⟩⟩; (try first | exact ⟨rfl, _, World.drewN_drewN _ _ _⟩ | exact ⟨rfl, _, Eq.trans (World.drewN_drewN _ _ _) (congrArg (World.drewN _) (Nat.add_assoc _ _ _))⟩))))
                                go_ret
                                exact ⟨by first | rfl | (simp; done) | (simp [*]; done), by repeat (first | exact Drawn0.refl _ | apply Drawn0.step)⟩
                              · replace c18 := Bool.eq_false_iff.mpr c18
                                subst c18
                                have H1 : (verditerref06_Validate.l1 k3 a0 l1 x5_1 (wrap64 (x6_3 + 1))) = some r := by rw [if_neg (show ¬ (false = true) by decide)] at H; exact H
                                clear H
                                have H := H1
                                clear H1
                                have H' := Aside0.mk H
                                clear H
                                have p189 : 0 ≤ (x5_1 : Int) := of_decide_eq_true (by first | (with_reducible assumption) | assumption)
                                have q189 : x5_1 < (l1.length : Int) := of_decide_eq_true (by first | (with_reducible assumption) | assumption)
                                obtain ⟨ad189, A189_0, c189_0, A189_1, c189_1, e189, hx189_0, hx189_1, hl189_0, hi189_0, hl189_1, hi189_1⟩ := at_T53 HR1.out x5_1 p189 q189
                                cases e189
                                have HR189_0 := Aside0.mk hi189_0
                                have HC189_0 := Aside0.mk hl189_0
                                clear hi189_0 hl189_0
                                have HR189_1 := Aside0.mk hi189_1
                                have HC189_1 := Aside0.mk hl189_1
                                clear hi189_1 hl189_1
                                replace p189 := eq_true p189
                                replace q189 := eq_true q189
                                have p190 : 0 ≤ (x5_1 : Int) := of_decide_eq_true (by first | (with_reducible assumption) | assumption)
                                have q190 : x5_1 < (l1.length : Int) := of_decide_eq_true (by first | (with_reducible assumption) | assumption)
                                obtain ⟨ad190, A190_0, c190_0, A190_1, c190_1, e190, hx190_0, hx190_1, hl190_0, hi190_0, hl190_1, hi190_1⟩ := at_T53 HR1.out x5_1 p190 q190
                                obtain rfl : ad189 = ad190 := (by injection e190)
                                have HR190_0 := Aside0.mk hi190_0
                                have HC190_0 := Aside0.mk hl190_0
                                clear hi190_0 hl190_0
                                have HR190_1 := Aside0.mk hi190_1
                                have HC190_1 := Aside0.mk hl190_1
                                clear hi190_1 hl190_1
                                replace p190 := eq_true p190
                                replace q190 := eq_true q190
                                have ea_ := Option.some.inj (hx189_0.symm.trans hx190_0)
                                injection ea_ with ea_ en_ ec_
                                subst ea_
                                subst ec_
                                clear en_
                                have ea_ := Option.some.inj (hx189_1.symm.trans hx190_1)
                                injection ea_ with ea_ en_ ec_
                                subst ea_
                                subst ec_
                                clear en_
                                have p191 : 0 ≤ (x5_1 : Int) := of_decide_eq_true (by first | (with_reducible assumption) | assumption)
                                have q191 : x5_1 < (l1.length : Int) := of_decide_eq_true (by first | (with_reducible assumption) | assumption)
                                obtain ⟨ad191, A191_0, c191_0, A191_1, c191_1, e191, hx191_0, hx191_1, hl191_0, hi191_0, hl191_1, hi191_1⟩ := at_T53 HR1.out x5_1 p191 q191
                                obtain rfl : ad189 = ad191 := (by injection e191)
                                have HR191_0 := Aside0.mk hi191_0
                                have HC191_0 := Aside0.mk hl191_0
                                clear hi191_0 hl191_0
                                have HR191_1 := Aside0.mk hi191_1
                                have HC191_1 := Aside0.mk hl191_1
                                clear hi191_1 hl191_1
                                replace p191 := eq_true p191
                                replace q191 := eq_true q191
                                have ea_ := Option.some.inj (hx189_0.symm.trans hx191_0)
                                injection ea_ with ea_ en_ ec_
                                subst ea_
                                subst ec_
                                clear en_
                                have ea_ := Option.some.inj (hx189_1.symm.trans hx191_1)
                                injection ea_ with ea_ en_ ec_
                                subst ea_
                                subst ec_
                                clear en_
                                have p192 : 0 ≤ (x6_3 : Int) := of_decide_eq_true (by first | (with_reducible assumption) | assumption)
                                have q192 : x6_3 < (((rd_T53 l1 x5_1).f0).length : Int) := of_decide_eq_true (by first | (with_reducible assumption) | assumption)
                                obtain ⟨ad192, e192, hx192_0⟩ := Kd.at_int HR191_0.out x6_3 p192 q192
                                cases e192
                                replace p192 := eq_true p192
                                replace q192 := eq_true q192
                                go_wp2_with (first | (go_at_call 101; (with_reducible refine (verditerref06_has.calls k3 _ _ ((rd_T53 l1 x5_1).f1) (rd ((rd_T53 l1 x5_1).f0) x6_3) false _ ?side1 ?side2 A17.out).mono ?_); (case side1 => repeat (first | exact HR190_1.out | (with_reducible refine Kd.C_alloc ?_ _) | (with_reducible refine Kd.C_drewN ?_ _) | (with_reducible refine Kd.C_drew ?_))); (case side2 => exact HC190_1.out); rintro e w' ⟨rfl, ⟨nd, rfl⟩⟩; (try first | exact ⟨rfl, _, World.drewN_drewN _ _ _⟩ | exact ⟨rfl, _, Eq.trans (World.drewN_drewN _ _ _) (congrArg (World.drewN _) (Nat.add_assoc _ _ _))⟩)))
                                repeat (go_quiet (first | (go_at_call 101; (with_reducible refine (verditerref06_has.calls k3 _ _ ((rd_T53 l1 x5_1).f1) (rd ((rd_T53 l1 x5_1).f0) x6_3) false _ ?side1 ?side2 A17.out).mono ?_); (case side1 => repeat (first | exact HR190_1.out | (with_reducible refine Kd.C_alloc ?_ _) | (with_reducible refine Kd.C_drewN ?_ _) | (with_reducible refine Kd.C_drew ?_))); (case side2 => exact HC190_1.out); rintro e w' ⟨rfl, ⟨nd, rfl⟩⟩; (try first | exact ⟨rfl, _, World.drewN_drewN _ _ _⟩ | exact ⟨rfl, _, Eq.trans (World.drewN_drewN _ _ _) (congrArg (World.drewN _) (Nat.add_assoc _ _ _))⟩))); try go_wp2_with (first | (go_at_call 101; (with_reducible refine (verditerref06_has.calls k3 _ _ ((rd_T53 l1 x5_1).f1) (rd ((rd_T53 l1 x5_1).f0) x6_3) false _ ?side1 ?side2 A17.out).mono ?_); (case side1 => repeat (first | exact HR190_1.out | (with_reducible refine Kd.C_alloc ?_ _) | (with_reducible refine Kd.C_drewN ?_ _) | (with_reducible refine Kd.C_drew ?_))); (case side2 => exact HC190_1.out); rintro e w' ⟨rfl, ⟨nd, rfl⟩⟩; (try first | exact ⟨rfl, _, World.drewN_drewN _ _ _⟩ | exact ⟨rfl, _, Eq.trans (World.drewN_drewN _ _ _) (congrArg (World.drewN _) (Nat.add_assoc _ _ _))⟩))))
                                go_roundg k3
                                case measure => have := HK1.out; have := HJ6.out; have := HK3.out; omega
                                case rel => exact ⟨(wrap64 (x6_3 + 1)), (by first | rfl | (simp; done) | (simp [*]; done)), H', ⟨by have := HK1.out; have := HJ6.out; have := HK3.out; omega⟩, by repeat (first | exact Drawn0.refl _ | apply Drawn0.step)⟩
                            · rw [if_neg c16] at H
                              exact absurd H (by simp)
                          · rw [if_neg c15] at H
                            have c15b0 : decide (x6_3 < (((rd_T53 l1 x5_1).f0).length : Int)) = false := decide_eq_false c15
                            clear c15
                            by_cases c19 : (((rd_T53 l1 x5_1).f0).length : Int) = (((rd_T53 l1 x5_1).f1).length : Int)
                            · rw [if_pos c19] at H
                              have c19b0 : ((((rd_T53 l1 x5_1).f0).length : Int) == (((rd_T53 l1 x5_1).f1).length : Int)) = true := beq_iff_eq.mpr c19
                              have c19b1 : ((((rd_T53 l1 x5_1).f0).length : Int) != (((rd_T53 l1 x5_1).f1).length : Int)) = false := bne_eq_false_iff_eq.mpr c19
                              have c19b2 : (((rd_T53 l1 x5_1).f0).length == ((rd_T53 l1 x5_1).f1).length) = true := by first | simpa using c19 | (simp at c19 ⊢; omega)
                              clear c19
                              have H' := Aside0.mk H
                              clear H
                              have p189 : 0 ≤ (x5_1 : Int) := of_decide_eq_true (by first | (with_reducible assumption) | assumption)
                              have q189 : x5_1 < (l1.length : Int) := of_decide_eq_true (by first | (with_reducible assumption) | assumption)
                              obtain ⟨ad189, A189_0, c189_0, A189_1, c189_1, e189, hx189_0, hx189_1, hl189_0, hi189_0, hl189_1, hi189_1⟩ := at_T53 HR1.out x5_1 p189 q189
                              cases e189
                              have HR189_0 := Aside0.mk hi189_0
                              have HC189_0 := Aside0.mk hl189_0
                              clear hi189_0 hl189_0
                              have HR189_1 := Aside0.mk hi189_1
                              have HC189_1 := Aside0.mk hl189_1
                              clear hi189_1 hl189_1
                              replace p189 := eq_true p189
                              replace q189 := eq_true q189
                              have p194 : 0 ≤ (x5_1 : Int) := of_decide_eq_true (by first | (with_reducible assumption) | assumption)
                              have q194 : x5_1 < (l1.length : Int) := of_decide_eq_true (by first | (with_reducible assumption) | assumption)
                              obtain ⟨ad194, A194_0, c194_0, A194_1, c194_1, e194, hx194_0, hx194_1, hl194_0, hi194_0, hl194_1, hi194_1⟩ := at_T53 HR1.out x5_1 p194 q194
                              obtain rfl : ad189 = ad194 := (by injection e194)
                              have HR194_0 := Aside0.mk hi194_0
                              have HC194_0 := Aside0.mk hl194_0
                              clear hi194_0 hl194_0
                              have HR194_1 := Aside0.mk hi194_1
                              have HC194_1 := Aside0.mk hl194_1
                              clear hi194_1 hl194_1
                              replace p194 := eq_true p194
                              replace q194 := eq_true q194
                              have ea_ := Option.some.inj (hx189_0.symm.trans hx194_0)
                              injection ea_ with ea_ en_ ec_
                              subst ea_
                              subst ec_
                              clear en_
                              have ea_ := Option.some.inj (hx189_1.symm.trans hx194_1)
                              injection ea_ with ea_ en_ ec_
                              subst ea_
                              subst ec_
                              clear en_
                              have p195 : 0 ≤ (x5_1 : Int) := of_decide_eq_true (by first | (with_reducible assumption) | assumption)
                              have q195 : x5_1 < (l1.length : Int) := of_decide_eq_true (by first | (with_reducible assumption) | assumption)
                              obtain ⟨ad195, A195_0, c195_0, A195_1, c195_1, e195, hx195_0, hx195_1, hl195_0, hi195_0, hl195_1, hi195_1⟩ := at_T53 HR1.out x5_1 p195 q195
                              obtain rfl : ad189 = ad195 := (by injection e195)
                              have HR195_0 := Aside0.mk hi195_0
                              have HC195_0 := Aside0.mk hl195_0
                              clear hi195_0 hl195_0
                              have HR195_1 := Aside0.mk hi195_1
                              have HC195_1 := Aside0.mk hl195_1
                              clear hi195_1 hl195_1
                              replace p195 := eq_true p195
                              replace q195 := eq_true q195
                              have ea_ := Option.some.inj (hx189_0.symm.trans hx195_0)
                              injection ea_ with ea_ en_ ec_
                              subst ea_
                              subst ec_
                              clear en_
                              have ea_ := Option.some.inj (hx189_1.symm.trans hx195_1)
                              injection ea_ with ea_ en_ ec_
                              subst ea_
                              subst ec_
                              clear en_
                              go_wp2
                              repeat (go_quiet (fail); try go_wp2)
                              go_roundg k3
                              case measure => have := HK1.out; have := HJ6.out; have := HK3.out; omega
                              case rel => exact ⟨(wrap64 (x5_1 + 1)), (by first | rfl | (simp; done) | (simp [*]; done)), H', ⟨by have := HK1.out; have := HJ6.out; have := HK3.out; omega⟩, by repeat (first | exact Drawn0.refl _ | apply Drawn0.step)⟩
                            · rw [if_neg c19] at H
                              have c19b0 : ((((rd_T53 l1 x5_1).f0).length : Int) == (((rd_T53 l1 x5_1).f1).length : Int)) = false := beq_eq_false_iff_ne.mpr c19
                              have c19b1 : ((((rd_T53 l1 x5_1).f0).length : Int) != (((rd_T53 l1 x5_1).f1).length : Int)) = true := bne_iff_ne.mpr c19
                              have c19b2 : (((rd_T53 l1 x5_1).f0).length == ((rd_T53 l1 x5_1).f1).length) = false := by first | simpa using c19 | (simp at c19 ⊢; omega)
                              obtain rfl := Option.some.inj H
                              have p189 : 0 ≤ (x5_1 : Int) := of_decide_eq_true (by first | (with_reducible assumption) | assumption)
                              have q189 : x5_1 < (l1.length : Int) := of_decide_eq_true (by first | (with_reducible assumption) | assumption)
                              obtain ⟨ad189, A189_0, c189_0, A189_1, c189_1, e189, hx189_0, hx189_1, hl189_0, hi189_0, hl189_1, hi189_1⟩ := at_T53 HR1.out x5_1 p189 q189
                              cases e189
                              have HR189_0 := Aside0.mk hi189_0
                              have HC189_0 := Aside0.mk hl189_0
                              clear hi189_0 hl189_0
                              have HR189_1 := Aside0.mk hi189_1
                              have HC189_1 := Aside0.mk hl189_1
                              clear hi189_1 hl189_1
                              replace p189 := eq_true p189
                              replace q189 := eq_true q189
                              have p194 : 0 ≤ (x5_1 : Int) := of_decide_eq_true (by first | (with_reducible assumption) | assumption)
                              have q194 : x5_1 < (l1.length : Int) := of_decide_eq_true (by first | (with_reducible assumption) | assumption)
                              obtain ⟨ad194, A194_0, c194_0, A194_1, c194_1, e194, hx194_0, hx194_1, hl194_0, hi194_0, hl194_1, hi194_1⟩ := at_T53 HR1.out x5_1 p194 q194
                              obtain rfl : ad189 = ad194 := (by injection e194)
                              have HR194_0 := Aside0.mk hi194_0
                              have HC194_0 := Aside0.mk hl194_0
                              clear hi194_0 hl194_0
                              have HR194_1 := Aside0.mk hi194_1
                              have HC194_1 := Aside0.mk hl194_1
                              clear hi194_1 hl194_1
                              replace p194 := eq_true p194
                              replace q194 := eq_true q194
                              have ea_ := Option.some.inj (hx189_0.symm.trans hx194_0)
                              injection ea_ with ea_ en_ ec_
                              subst ea_
                              subst ec_
                              clear en_
                              have ea_ := Option.some.inj (hx189_1.symm.trans hx194_1)
                              injection ea_ with ea_ en_ ec_
                              subst ea_
                              subst ec_
                              clear en_
                              have p195 : 0 ≤ (x5_1 : Int) := of_decide_eq_true (by first | (with_reducible assumption) | assumption)
                              have q195 : x5_1 < (l1.length : Int) := of_decide_eq_true (by first | (with_reducible assumption) | assumption)
                              obtain ⟨ad195, A195_0, c195_0, A195_1, c195_1, e195, hx195_0, hx195_1, hl195_0, hi195_0, hl195_1, hi195_1⟩ := at_T53 HR1.out x5_1 p195 q195
                              obtain rfl : ad189 = ad195 := (by injection e195)
                              have HR195_0 := Aside0.mk hi195_0
                              have HC195_0 := Aside0.mk hl195_0
                              clear hi195_0 hl195_0
                              have HR195_1 := Aside0.mk hi195_1
                              have HC195_1 := Aside0.mk hl195_1
                              clear hi195_1 hl195_1
                              replace p195 := eq_true p195
                              replace q195 := eq_true q195
                              have ea_ := Option.some.inj (hx189_0.symm.trans hx195_0)
                              injection ea_ with ea_ en_ ec_
                              subst ea_
                              subst ec_
                              clear en_
                              have ea_ := Option.some.inj (hx189_1.symm.trans hx195_1)
                              injection ea_ with ea_ en_ ec_
                              subst ea_
                              subst ec_
                              clear en_
                              go_wp2
                              repeat (go_quiet (fail); try go_wp2)
                              go_ret
                              exact ⟨by first | rfl | (simp; done) | (simp [*]; done), by repeat (first | exact Drawn0.refl _ | apply Drawn0.step)⟩
                        · rw [if_neg c14] at H
                          exact absurd H (by simp)
                      · rw [if_neg c13] at H
                        exact absurd H (by simp)
          · rw [if_neg c6] at H
            have c6b0 : decide (x5_1 < (l1.length : Int)) = false := decide_eq_false c6
            clear c6
            obtain rfl := Option.some.inj H
            go_wp2
            repeat (go_quiet (fail); try go_wp2)
            go_ret
            exact ⟨by first | rfl | (simp; done) | (simp [*]; done), by repeat (first | exact Drawn0.refl _ | apply Drawn0.step)⟩
  · replace c4 := Bool.eq_false_iff.mpr c4
    subst c4
    have H1 : (some 1) = some r := by rw [if_neg (show ¬ (false = true) by decide)] at H; exact H
    clear H
    have H := H1
    clear H1
    obtain rfl := Option.some.inj H
    go_enter Try.func59, Try.ntmps59
    go_wp2_with (first | (go_at_call 82; (with_reducible refine (verditerref06_within.calls a0 1 13 false _ A3.out).mono ?_); rintro e w' ⟨rfl, ⟨nd, rfl⟩⟩; (try first | exact ⟨rfl, _, World.drewN_drewN _ _ _⟩ | exact ⟨rfl, _, Eq.trans (World.drewN_drewN _ _ _) (congrArg (World.drewN _) (Nat.add_assoc _ _ _))⟩)))
    repeat (go_quiet (first | (go_at_call 82; (with_reducible refine (verditerref06_within.calls a0 1 13 false _ A3.out).mono ?_); rintro e w' ⟨rfl, ⟨nd, rfl⟩⟩; (try first | exact ⟨rfl, _, World.drewN_drewN _ _ _⟩ | exact ⟨rfl, _, Eq.trans (World.drewN_drewN _ _ _) (congrArg (World.drewN _) (Nat.add_assoc _ _ _))⟩))); try go_wp2_with (first | (go_at_call 82; (with_reducible refine (verditerref06_within.calls a0 1 13 false _ A3.out).mono ?_); rintro e w' ⟨rfl, ⟨nd, rfl⟩⟩; (try first | exact ⟨rfl, _, World.drewN_drewN _ _ _⟩ | exact ⟨rfl, _, Eq.trans (World.drewN_drewN _ _ _) (congrArg (World.drewN _) (Nat.add_assoc _ _ _))⟩))))
    go_ret
    exact ⟨by first | rfl | (simp; done) | (simp [*]; done), by repeat (first | exact Drawn0.refl _ | apply Drawn0.step)⟩

end Go.Proofs.Ytdbeochifofdoaa.X
end

section
-- Written by a program of this session (wip/hook.py, which runs the kit's print.py with contracts proved by hand). Not trusted: Lean checks it.
namespace Go.Proofs.Ytdbeochifofdoaa.X
open Go.RowKit Go.Proofs.YtdbeochifofdoaaW.PrintWords Go.Proofs.YtdbeochifofdoaaW.PrintLast Go.Proofs.YtdbeochifofdoaaW.PrintMore
attribute [local go_sem] max2_int min2_int max_two min_two max_three min_three max_four min_four   -- for this text's walks alone
set_option linter.unusedVariables false
set_option linter.unusedSimpArgs false

/-! ### verditerlaw06_Long: function 43 -/
def verditerlaw06_Long.l0 : Nat → List (S53) → Int → Option (Bool)
  | 0, _, _ => none
  | k + 1, x0, x3 => if x3 < (x0.length : Int) then (if 0 ≤ x3 then (if (((rd_T53 x0 x3).f0).length : Int) > 50 then (some true) else (if (((rd_T53 x0 x3).f1).length : Int) > 50 then (some true) else (verditerlaw06_Long.l0 k x0 (wrap64 (x3 + 1))))) else (none)) else (some false)
def verditerlaw06_Long.f (k : Nat) (l0 : List (S53)) : Option (Bool) := if (l0.length : Int) > 50 then (some true) else (verditerlaw06_Long.l0 k l0 0)
theorem verditerlaw06_Long.mono_l : ∀ k, (∀ y0 y1, LeO (verditerlaw06_Long.l0 k y0 y1) (verditerlaw06_Long.l0 (k + 1) y0 y1))
  | 0 => fun _ _ r h => by simp [verditerlaw06_Long.l0] at h
  | k + 1 => by
    have ih0 := verditerlaw06_Long.mono_l k
    · intro y0 y1
      unfold verditerlaw06_Long.l0
      repeat' first
      | (with_reducible exact ih0 _ _)
      | (with_reducible exact LeO.refl _)
      | (with_reducible exact LeO.none _)
      | (with_reducible refine LeO.ite ?_ ?_)
      | (with_reducible refine LeO.bind ?_ (fun _ => ?_))
      | exact ih0 _ _
      | exact LeO.none _
      | refine LeO.ite ?_ ?_
      | refine LeO.bind ?_ (fun _ => ?_)
theorem verditerlaw06_Long.mono : ∀ a0 k, LeO (verditerlaw06_Long.f k a0) (verditerlaw06_Long.f (k + 1) a0) := by
  intro a0 k
  have ih0 := verditerlaw06_Long.mono_l k
  unfold verditerlaw06_Long.f
  repeat' first
      | (with_reducible exact ih0 _ _)
      | (with_reducible exact LeO.refl _)
      | (with_reducible exact LeO.none _)
      | (with_reducible refine LeO.ite ?_ ?_)
      | (with_reducible refine LeO.bind ?_ (fun _ => ?_))
      | exact ih0 _ _
      | exact LeO.none _
      | refine LeO.ite ?_ ?_
      | refine LeO.bind ?_ (fun _ => ?_)
set_option maxHeartbeats 8000000 in
set_option maxRecDepth 100000 in
theorem verditerlaw06_Long.calls (k : Nat) (A0 : Option Addr) (c0 : Nat) (l0 : List (S53)) (r : Bool) (w : World) (hr0 : Kd.C k53 w A0 l0.length l0) (hc0 : l0.length ≤ c0) (h : verditerlaw06_Long.f k l0 = some r) :
    Calls Try.prog 43 #[.slice A0 l0.length c0] w fun e w' => e = .returned (.bool r) ∧ Drawn0 w w' := by
  have HR0 := Aside0.mk hr0
  have HC0 := Aside0.mk hc0
  clear hr0 hc0
  have H : (if (l0.length : Int) > 50 then (some true) else (verditerlaw06_Long.l0 k l0 0)) = some r := h
  clear h
  by_cases c2 : (l0.length : Int) > 50
  · rw [if_pos c2] at H
    have c2b0 : decide (50 < (l0.length : Int)) = true := decide_eq_true c2
    have c2b1 : decide (50 < l0.length) = true := decide_eq_true (by omega)
    clear c2
    obtain rfl := Option.some.inj H
    go_enter Try.func43, Try.ntmps43
    go_wp2
    go_ret
    exact ⟨by first | rfl | (simp; done) | (simp [*]; done), by repeat (first | exact Drawn0.refl _ | apply Drawn0.step)⟩
  · rw [if_neg c2] at H
    have c2b0 : decide (50 < (l0.length : Int)) = false := decide_eq_false c2
    have c2b1 : decide (50 < l0.length) = false := decide_eq_false (by omega)
    clear c2
    have H' := Aside0.mk H
    clear H
    go_enter Try.func43, Try.ntmps43
    go_wp2
    go_loopg [3] k (fun kq v3 w' => ∃ (x3_1 : Int), v3 = .int .i64 x3_1 ∧ Aside0 (verditerlaw06_Long.l0 kq l0 x3_1 = some r) ∧ Aside0 (kq ≤ k) ∧ Drawn0 w w')
    case atStart => exact ⟨(0), (by first | rfl | (simp; done) | (simp [*]; done)), H', ⟨Nat.le_refl _⟩, by repeat (first | exact Drawn0.refl _ | apply Drawn0.step)⟩
    case round =>
      clear H'
      try clear c2
      try clear c2b0
      try clear c2b1
      try clear p2
      obtain ⟨x3_1, rfl, HA, HK1, ⟨m1, rfl⟩⟩ := hrel
      cases gk with
      | zero => exact absurd HA.out (by simp [verditerlaw06_Long.l0])
      | succ k1 =>
        have H := HA.out
        clear HA
        simp only [verditerlaw06_Long.l0] at H
        by_cases c3 : x3_1 < (l0.length : Int)
        · rw [if_pos c3] at H
          have c3b0 : decide (x3_1 < (l0.length : Int)) = true := decide_eq_true c3
          clear c3
          by_cases c4 : 0 ≤ x3_1
          · rw [if_pos c4] at H
            have c4b0 : decide (0 ≤ x3_1) = true := decide_eq_true c4
            clear c4
            by_cases c5 : (((rd_T53 l0 x3_1).f0).length : Int) > 50
            · rw [if_pos c5] at H
              have c5b0 : decide (50 < (((rd_T53 l0 x3_1).f0).length : Int)) = true := decide_eq_true c5
              have c5b1 : decide (50 < ((rd_T53 l0 x3_1).f0).length) = true := decide_eq_true (by omega)
              clear c5
              obtain rfl := Option.some.inj H
              have p236 : 0 ≤ (x3_1 : Int) := of_decide_eq_true (by first | (with_reducible assumption) | assumption)
              have q236 : x3_1 < (l0.length : Int) := of_decide_eq_true (by first | (with_reducible assumption) | assumption)
              obtain ⟨ad236, A236_0, c236_0, A236_1, c236_1, e236, hx236_0, hx236_1, hl236_0, hi236_0, hl236_1, hi236_1⟩ := at_T53 HR0.out x3_1 p236 q236
              cases e236
              have HR236_0 := Aside0.mk hi236_0
              have HC236_0 := Aside0.mk hl236_0
              clear hi236_0 hl236_0
              have HR236_1 := Aside0.mk hi236_1
              have HC236_1 := Aside0.mk hl236_1
              clear hi236_1 hl236_1
              replace p236 := eq_true p236
              replace q236 := eq_true q236
              go_wp2
              go_ret
              exact ⟨by first | rfl | (simp; done) | (simp [*]; done), by repeat (first | exact Drawn0.refl _ | apply Drawn0.step)⟩
            · rw [if_neg c5] at H
              have c5b0 : decide (50 < (((rd_T53 l0 x3_1).f0).length : Int)) = false := decide_eq_false c5
              have c5b1 : decide (50 < ((rd_T53 l0 x3_1).f0).length) = false := decide_eq_false (by omega)
              clear c5
              by_cases c6 : (((rd_T53 l0 x3_1).f1).length : Int) > 50
              · rw [if_pos c6] at H
                have c6b0 : decide (50 < (((rd_T53 l0 x3_1).f1).length : Int)) = true := decide_eq_true c6
                have c6b1 : decide (50 < ((rd_T53 l0 x3_1).f1).length) = true := decide_eq_true (by omega)
                clear c6
                obtain rfl := Option.some.inj H
                have p236 : 0 ≤ (x3_1 : Int) := of_decide_eq_true (by first | (with_reducible assumption) | assumption)
                have q236 : x3_1 < (l0.length : Int) := of_decide_eq_true (by first | (with_reducible assumption) | assumption)
                obtain ⟨ad236, A236_0, c236_0, A236_1, c236_1, e236, hx236_0, hx236_1, hl236_0, hi236_0, hl236_1, hi236_1⟩ := at_T53 HR0.out x3_1 p236 q236
                cases e236
                have HR236_0 := Aside0.mk hi236_0
                have HC236_0 := Aside0.mk hl236_0
                clear hi236_0 hl236_0
                have HR236_1 := Aside0.mk hi236_1
                have HC236_1 := Aside0.mk hl236_1
                clear hi236_1 hl236_1
                replace p236 := eq_true p236
                replace q236 := eq_true q236
                have p237 : 0 ≤ (x3_1 : Int) := of_decide_eq_true (by first | (with_reducible assumption) | assumption)
                have q237 : x3_1 < (l0.length : Int) := of_decide_eq_true (by first | (with_reducible assumption) | assumption)
                obtain ⟨ad237, A237_0, c237_0, A237_1, c237_1, e237, hx237_0, hx237_1, hl237_0, hi237_0, hl237_1, hi237_1⟩ := at_T53 HR0.out x3_1 p237 q237
                obtain rfl : ad236 = ad237 := (by injection e237)
                have HR237_0 := Aside0.mk hi237_0
                have HC237_0 := Aside0.mk hl237_0
                clear hi237_0 hl237_0
                have HR237_1 := Aside0.mk hi237_1
                have HC237_1 := Aside0.mk hl237_1
                clear hi237_1 hl237_1
                replace p237 := eq_true p237
                replace q237 := eq_true q237
                have ea_ := Option.some.inj (hx236_0.symm.trans hx237_0)
                injection ea_ with ea_ en_ ec_
                subst ea_
                subst ec_
                clear en_
                have ea_ := Option.some.inj (hx236_1.symm.trans hx237_1)
                injection ea_ with ea_ en_ ec_
                subst ea_
                subst ec_
                clear en_
                go_wp2
                go_ret
                exact ⟨by first | rfl | (simp; done) | (simp [*]; done), by repeat (first | exact Drawn0.refl _ | apply Drawn0.step)⟩
              · rw [if_neg c6] at H
                have c6b0 : decide (50 < (((rd_T53 l0 x3_1).f1).length : Int)) = false := decide_eq_false c6
                have c6b1 : decide (50 < ((rd_T53 l0 x3_1).f1).length) = false := decide_eq_false (by omega)
                clear c6
                have H' := Aside0.mk H
                clear H
                have p236 : 0 ≤ (x3_1 : Int) := of_decide_eq_true (by first | (with_reducible assumption) | assumption)
                have q236 : x3_1 < (l0.length : Int) := of_decide_eq_true (by first | (with_reducible assumption) | assumption)
                obtain ⟨ad236, A236_0, c236_0, A236_1, c236_1, e236, hx236_0, hx236_1, hl236_0, hi236_0, hl236_1, hi236_1⟩ := at_T53 HR0.out x3_1 p236 q236
                cases e236
                have HR236_0 := Aside0.mk hi236_0
                have HC236_0 := Aside0.mk hl236_0
                clear hi236_0 hl236_0
                have HR236_1 := Aside0.mk hi236_1
                have HC236_1 := Aside0.mk hl236_1
                clear hi236_1 hl236_1
                replace p236 := eq_true p236
                replace q236 := eq_true q236
                have p237 : 0 ≤ (x3_1 : Int) := of_decide_eq_true (by first | (with_reducible assumption) | assumption)
                have q237 : x3_1 < (l0.length : Int) := of_decide_eq_true (by first | (with_reducible assumption) | assumption)
                obtain ⟨ad237, A237_0, c237_0, A237_1, c237_1, e237, hx237_0, hx237_1, hl237_0, hi237_0, hl237_1, hi237_1⟩ := at_T53 HR0.out x3_1 p237 q237
                obtain rfl : ad236 = ad237 := (by injection e237)
                have HR237_0 := Aside0.mk hi237_0
                have HC237_0 := Aside0.mk hl237_0
                clear hi237_0 hl237_0
                have HR237_1 := Aside0.mk hi237_1
                have HC237_1 := Aside0.mk hl237_1
                clear hi237_1 hl237_1
                replace p237 := eq_true p237
                replace q237 := eq_true q237
                have ea_ := Option.some.inj (hx236_0.symm.trans hx237_0)
                injection ea_ with ea_ en_ ec_
                subst ea_
                subst ec_
                clear en_
                have ea_ := Option.some.inj (hx236_1.symm.trans hx237_1)
                injection ea_ with ea_ en_ ec_
                subst ea_
                subst ec_
                clear en_
                go_wp2
                go_roundg k1
                case measure => have := HK1.out; omega
                case rel => exact ⟨(wrap64 (x3_1 + 1)), (by first | rfl | (simp; done) | (simp [*]; done)), H', ⟨by have := HK1.out; omega⟩, by repeat (first | exact Drawn0.refl _ | apply Drawn0.step)⟩
          · rw [if_neg c4] at H
            exact absurd H (by simp)
        · rw [if_neg c3] at H
          have c3b0 : decide (x3_1 < (l0.length : Int)) = false := decide_eq_false c3
          clear c3
          obtain rfl := Option.some.inj H
          go_wp2
          go_ret
          exact ⟨by first | rfl | (simp; done) | (simp [*]; done), by repeat (first | exact Drawn0.refl _ | apply Drawn0.step)⟩

end Go.Proofs.Ytdbeochifofdoaa.X
end

section
-- Written by a program of this session (wip/hook.py, which runs the kit's print.py with contracts proved by hand). Not trusted: Lean checks it.
namespace Go.Proofs.Ytdbeochifofdoaa.X
open Go.RowKit Go.Proofs.YtdbeochifofdoaaW.PrintWords Go.Proofs.YtdbeochifofdoaaW.PrintLast Go.Proofs.YtdbeochifofdoaaW.PrintMore
attribute [local go_sem] max2_int min2_int max_two min_two max_three min_three max_four min_four   -- for this text's walks alone
set_option linter.unusedVariables false
set_option linter.unusedSimpArgs false

/-! ### verditerref06_times: function 79 -/
def verditerref06_times.l0 : Nat → List Int → Int → List Int → Int → Option (List Int)
  | 0, _, _, _, _ => none
  | k + 1, x0, x1, x5, x6 => if x6 < (x0.length : Int) then (if 0 ≤ x6 then (if x5.length < 17592186044416 then (verditerref06_times.l0 k x0 x1 (x5 ++ [wrap64 (x1 * (rd x0 x6))]) (wrap64 (x6 + 1))) else (none)) else (none)) else (some x5)
def verditerref06_times.f (k : Nat) (l0 : List Int) (a1 : Int) : Option (List Int) := verditerref06_times.l0 k l0 a1 ([] : List Int) 0
theorem verditerref06_times.mono_l : ∀ k, (∀ y0 y1 y2 y3, LeO (verditerref06_times.l0 k y0 y1 y2 y3) (verditerref06_times.l0 (k + 1) y0 y1 y2 y3))
  | 0 => fun _ _ _ _ r h => by simp [verditerref06_times.l0] at h
  | k + 1 => by
    have ih0 := verditerref06_times.mono_l k
    · intro y0 y1 y2 y3
      unfold verditerref06_times.l0
      repeat' first
      | (with_reducible exact ih0 _ _ _ _)
      | (with_reducible exact LeO.refl _)
      | (with_reducible exact LeO.none _)
      | (with_reducible refine LeO.ite ?_ ?_)
      | (with_reducible refine LeO.bind ?_ (fun _ => ?_))
      | exact ih0 _ _ _ _
      | exact LeO.none _
      | refine LeO.ite ?_ ?_
      | refine LeO.bind ?_ (fun _ => ?_)
theorem verditerref06_times.mono : ∀ a0 a1 k, LeO (verditerref06_times.f k a0 a1) (verditerref06_times.f (k + 1) a0 a1) := by
  intro a0 a1 k
  have ih0 := verditerref06_times.mono_l k
  unfold verditerref06_times.f
  repeat' first
      | (with_reducible exact ih0 _ _ _ _)
      | (with_reducible exact LeO.refl _)
      | (with_reducible exact LeO.none _)
      | (with_reducible refine LeO.ite ?_ ?_)
      | (with_reducible refine LeO.bind ?_ (fun _ => ?_))
      | exact ih0 _ _ _ _
      | exact LeO.none _
      | refine LeO.ite ?_ ?_
      | refine LeO.bind ?_ (fun _ => ?_)
set_option maxHeartbeats 8000000 in
set_option maxRecDepth 100000 in
theorem verditerref06_times.calls (k : Nat) (A0 : Option Addr) (c0 : Nat) (l0 : List Int) (a1 : Int) (r : List Int) (w : World) (hr0 : Kd.C (Kd.int .i64) w A0 l0.length l0) (hc0 : l0.length ≤ c0) (h : verditerref06_times.f k l0 a1 = some r) :
    Calls Try.prog 79 #[.slice A0 l0.length c0, .int .i64 a1] w fun e w' => ∃ v0_ : Value, e = .returned (v0_) ∧ Kd.R (Kd.int .i64) 3 w' w.heap.size (fun _ => True) v0_ r ∧ Below w.heap.size w w' := by
  have HR0 := Aside0.mk hr0
  have HC0 := Aside0.mk hc0
  clear hr0 hc0
  have HB := Aside0.mk (Below.refl w.heap.size w)
  have H : (verditerref06_times.l0 k l0 a1 ([] : List Int) 0) = some r := h
  clear h
  have H' := Aside0.mk H
  clear H
  go_enter Try.func79, Try.ntmps79
  go_wp2
  go_loopg [5, 6] k (fun kq v5 v6 w' => ∃ (x5_1 : List Int) (x6_1 : Int), v6 = .int .i64 x6_1 ∧ Aside0 (verditerref06_times.l0 kq l0 a1 x5_1 x6_1 = some r) ∧ Aside0 (kq ≤ k) ∧ Aside0 (Kd.R (Kd.int .i64) 3 w' w.heap.size (fun _ => True) v5 x5_1) ∧ Aside0 (Below w.heap.size w w'))
  case atStart => exact ⟨(([] : List Int)), (0), (by first | rfl | (simp; done) | (simp [*]; done)), H', ⟨Nat.le_refl _⟩, ⟨by first | exact Kd.R_nil _ _ _ _ _ | exact Kd.N_nil _ _ _ _ _ | exact Kd.V_nil _ _ _ _ _ | exact Kd.Q_nil _ _ _ _ _ | exact Kd.S_nil _ _ _ _ _⟩, ⟨by repeat (first | (with_reducible first | exact HB.out | apply below_alloc | apply pw_below_drewN | apply below_drew1) | exact HB.out)⟩⟩
  case round =>
    clear H'
    try clear p2
    obtain ⟨x5_1, x6_1, rfl, HA, HK1, HO_5, HB⟩ := hrel
    cases gk with
    | zero => exact absurd HA.out (by simp [verditerref06_times.l0])
    | succ k1 =>
      have H := HA.out
      clear HA
      simp only [verditerref06_times.l0] at H
      by_cases c3 : x6_1 < (l0.length : Int)
      · rw [if_pos c3] at H
        have c3b0 : decide (x6_1 < (l0.length : Int)) = true := decide_eq_true c3
        clear c3
        by_cases c4 : 0 ≤ x6_1
        · rw [if_pos c4] at H
          have c4b0 : decide (0 ≤ x6_1) = true := decide_eq_true c4
          clear c4
          by_cases c5 : x5_1.length < 17592186044416
          · rw [if_pos c5] at H
            have LMc5 := Aside0.mk c5
            clear c5
            obtain ⟨y197, hy197⟩ : ∃ y_ : List Int, y_ = (x5_1 ++ [wrap64 (a1 * (rd l0 x6_1))]) := ⟨_, rfl⟩
            replace H : (verditerref06_times.l0 k1 l0 a1 y197 (wrap64 (x6_1 + 1))) = some r := by first | (rw [hy197]; with_reducible exact H) | (have H2_ := (Option.bind_some _ _).symm.trans H; rw [hy197]; with_reducible exact H2_) | (have H2_ := (Option.bind_some _ _).symm.trans H; with_reducible exact H2_) | with_reducible exact H | (rw [hy197]; exact H) | exact H
            have Ny197 := Aside0.mk hy197
            clear hy197
            have H' := Aside0.mk H
            clear H
            have p196 : 0 ≤ (x6_1 : Int) := of_decide_eq_true (by first | (with_reducible assumption) | assumption)
            have q196 : x6_1 < (l0.length : Int) := of_decide_eq_true (by first | (with_reducible assumption) | assumption)
            obtain ⟨ad196, e196, hx196_0⟩ := Kd.at_int HR0.out x6_1 p196 q196
            cases e196
            replace hx196_0 := (HB.out.cell (World.block_lt_of_cell? w _ hx196_0)).trans hx196_0
            replace p196 := eq_true p196
            replace q196 := eq_true q196
            go_wp2_with (first | ((with_reducible refine gate_builtin (b := .append) (xs := #[.tmp 13, .tmp 20]) rfl ?_); at_builtin; refine Kd.R_append (Kd.int .i64) (w0 := w) w.heap.size rfl (.tmp 13) (.tmp 20) 43 3 (.int .i64 0) 8 rfl Try.underlying43 info3 rfl (by decide) (by omega) u5 x5_1 (wrap64 (a1 * (rd l0 x6_1))) [.int .i64 (wrap64 (a1 * (rd l0 x6_1)))] (fun _ => True) (fun _ => False) rfl rfl ?aP (fun _ hk => hk.elim) ?aF ?aO ?aB ?aS ?aL ?_; (case aP => exact rfl); (case aB => exact (by repeat (first | (with_reducible first | exact HB.out | apply below_alloc | apply pw_below_drewN | apply below_drew1) | exact HB.out))); (case aF => exact (fun _ _ => trivial)); (case aO => exact (by (with_reducible repeat (first | apply Kd.R_alloc | apply Kd.R_drewN | apply Kd.R_drew)); exact HO_5.out)); (case aS => exact (below_size (by repeat (first | (with_reducible first | exact HB.out | apply below_alloc | apply pw_below_drewN | apply below_drew1) | exact HB.out)))); (case aL => have := LMc5.out; omega); intro v198 w6 ho hb hg hat; rw [← Ny197.out] at ho; have n0_ := Aside0.mk (hb); have n1_ := Aside0.mk (ho); clear HB; clear HO_5; have HB := n0_; have HO199 := n1_; clear n0_ n1_; clear ho hb hg hat))
            go_roundg k1
            case measure => have := HK1.out; omega
            case rel => exact ⟨(y197), (wrap64 (x6_1 + 1)), (by first | rfl | (simp; done) | (simp [*]; done)), H', ⟨by have := HK1.out; omega⟩, ⟨by (with_reducible repeat (first | apply Kd.R_alloc | apply Kd.R_drewN | apply Kd.R_drew)); exact HO199.out⟩, ⟨by repeat (first | (with_reducible first | exact HB.out | apply below_alloc | apply pw_below_drewN | apply below_drew1) | exact HB.out)⟩⟩
          · rw [if_neg c5] at H
            exact absurd H (by simp)
        · rw [if_neg c4] at H
          exact absurd H (by simp)
      · rw [if_neg c3] at H
        have c3b0 : decide (x6_1 < (l0.length : Int)) = false := decide_eq_false c3
        clear c3
        obtain rfl := Option.some.inj H
        go_wp2
        go_ret
        exact ⟨_, by first | rfl | (simp [errW_none, errW_some] <;> rfl) | (simp [*, errW_none, errW_some] <;> rfl), by (with_reducible repeat (first | apply Kd.R_alloc | apply Kd.R_drewN | apply Kd.R_drew)); exact HO_5.out, by repeat (first | (with_reducible first | exact HB.out | apply below_alloc | apply pw_below_drewN | apply below_drew1) | exact HB.out)⟩

end Go.Proofs.Ytdbeochifofdoaa.X
end

section
-- Written by a program of this session (wip/hook.py, which runs the kit's print.py with contracts proved by hand). Not trusted: Lean checks it.
namespace Go.Proofs.Ytdbeochifofdoaa.X
open Go.RowKit Go.Proofs.YtdbeochifofdoaaW.PrintWords Go.Proofs.YtdbeochifofdoaaW.PrintLast Go.Proofs.YtdbeochifofdoaaW.PrintMore
attribute [local go_sem] max2_int min2_int max_two min_two max_three min_three max_four min_four   -- for this text's walks alone
set_option linter.unusedVariables false
set_option linter.unusedSimpArgs false

/-! ### verditerref06_mark: function 80 -/
def verditerref06_mark.l0 : Nat → List (S53) → Int → List Int → Int → Option (List Int)
  | 0, _, _, _, _ => none
  | k + 1, x0, x1, x5, x6 => if x6 < (x0.length : Int) then (if 0 ≤ x6 then ((verditerref06_has.f k ((rd_T53 x0 x6).f0) x1).bind fun t201 => (if t201 = true then ((verditerref06_has.f k ((rd_T53 x0 x6).f1) x1).bind fun t203 => (if t203 = true then (if x5.length < 17592186044416 then (verditerref06_mark.l0 k x0 x1 (x5 ++ [(-1)]) (wrap64 (x6 + 1))) else (none)) else (if x5.length < 17592186044416 then (verditerref06_mark.l0 k x0 x1 (x5 ++ [1]) (wrap64 (x6 + 1))) else (none)))) else ((verditerref06_has.f k ((rd_T53 x0 x6).f1) x1).bind fun t211 => (if t211 = true then (if x5.length < 17592186044416 then (verditerref06_mark.l0 k x0 x1 (x5 ++ [(-1)]) (wrap64 (x6 + 1))) else (none)) else (if x5.length < 17592186044416 then (verditerref06_mark.l0 k x0 x1 (x5 ++ [0]) (wrap64 (x6 + 1))) else (none)))))) else (none)) else (some x5)
def verditerref06_mark.f (k : Nat) (l0 : List (S53)) (a1 : Int) : Option (List Int) := verditerref06_mark.l0 k l0 a1 ([] : List Int) 0
theorem verditerref06_mark.mono_l : ∀ k, (∀ y0 y1 y2 y3, LeO (verditerref06_mark.l0 k y0 y1 y2 y3) (verditerref06_mark.l0 (k + 1) y0 y1 y2 y3))
  | 0 => fun _ _ _ _ r h => by simp [verditerref06_mark.l0] at h
  | k + 1 => by
    have ih0 := verditerref06_mark.mono_l k
    · intro y0 y1 y2 y3
      unfold verditerref06_mark.l0
      repeat' first
      | (with_reducible exact ih0 _ _ _ _)
      | (with_reducible exact verditerref06_has.mono _ _ _)
      | (with_reducible exact LeO.refl _)
      | (with_reducible exact LeO.none _)
      | (with_reducible refine LeO.ite ?_ ?_)
      | (with_reducible refine LeO.bind ?_ (fun _ => ?_))
      | exact ih0 _ _ _ _
      | exact verditerref06_has.mono _ _ _
      | exact LeO.none _
      | refine LeO.ite ?_ ?_
      | refine LeO.bind ?_ (fun _ => ?_)
theorem verditerref06_mark.mono : ∀ a0 a1 k, LeO (verditerref06_mark.f k a0 a1) (verditerref06_mark.f (k + 1) a0 a1) := by
  intro a0 a1 k
  have ih0 := verditerref06_mark.mono_l k
  unfold verditerref06_mark.f
  repeat' first
      | (with_reducible exact ih0 _ _ _ _)
      | (with_reducible exact verditerref06_has.mono _ _ _)
      | (with_reducible exact LeO.refl _)
      | (with_reducible exact LeO.none _)
      | (with_reducible refine LeO.ite ?_ ?_)
      | (with_reducible refine LeO.bind ?_ (fun _ => ?_))
      | exact ih0 _ _ _ _
      | exact verditerref06_has.mono _ _ _
      | exact LeO.none _
      | refine LeO.ite ?_ ?_
      | refine LeO.bind ?_ (fun _ => ?_)
set_option maxHeartbeats 8000000 in
set_option maxRecDepth 100000 in
theorem verditerref06_mark.calls (k : Nat) (A0 : Option Addr) (c0 : Nat) (l0 : List (S53)) (a1 : Int) (r : List Int) (w : World) (hr0 : Kd.C k53 w A0 l0.length l0) (hc0 : l0.length ≤ c0) (h : verditerref06_mark.f k l0 a1 = some r) :
    Calls Try.prog 80 #[.slice A0 l0.length c0, .int .i64 a1] w fun e w' => ∃ v0_ : Value, e = .returned (v0_) ∧ Kd.R (Kd.int .i64) 3 w' w.heap.size (fun _ => True) v0_ r ∧ Below w.heap.size w w' := by
  have HR0 := Aside0.mk hr0
  have HC0 := Aside0.mk hc0
  clear hr0 hc0
  have HB := Aside0.mk (Below.refl w.heap.size w)
  have H : (verditerref06_mark.l0 k l0 a1 ([] : List Int) 0) = some r := h
  clear h
  have H' := Aside0.mk H
  clear H
  go_enter Try.func80, Try.ntmps80
  go_wp2
  go_loopg [5, 6] k (fun kq v5 v6 w' => ∃ (x5_1 : List Int) (x6_1 : Int), v6 = .int .i64 x6_1 ∧ Aside0 (verditerref06_mark.l0 kq l0 a1 x5_1 x6_1 = some r) ∧ Aside0 (kq ≤ k) ∧ Aside0 (Kd.R (Kd.int .i64) 3 w' w.heap.size (fun _ => True) v5 x5_1) ∧ Aside0 (Below w.heap.size w w'))
  case atStart => exact ⟨(([] : List Int)), (0), (by first | rfl | (simp; done) | (simp [*]; done)), H', ⟨Nat.le_refl _⟩, ⟨by first | exact Kd.R_nil _ _ _ _ _ | exact Kd.N_nil _ _ _ _ _ | exact Kd.V_nil _ _ _ _ _ | exact Kd.Q_nil _ _ _ _ _ | exact Kd.S_nil _ _ _ _ _⟩, ⟨by repeat (first | (with_reducible first | exact HB.out | apply below_alloc | apply pw_below_drewN | apply below_drew1) | exact HB.out)⟩⟩
  case round =>
    clear H'
    try clear p2
    obtain ⟨x5_1, x6_1, rfl, HA, HK1, HO_5, HB⟩ := hrel
    cases gk with
    | zero => exact absurd HA.out (by simp [verditerref06_mark.l0])
    | succ k1 =>
      have H := HA.out
      clear HA
      simp only [verditerref06_mark.l0] at H
      by_cases c3 : x6_1 < (l0.length : Int)
      · rw [if_pos c3] at H
        have c3b0 : decide (x6_1 < (l0.length : Int)) = true := decide_eq_true c3
        clear c3
        by_cases c4 : 0 ≤ x6_1
        · rw [if_pos c4] at H
          have c4b0 : decide (0 ≤ x6_1) = true := decide_eq_true c4
          clear c4
          replace H := Option.bind_eq_some_iff.mp H
          obtain ⟨t201, A50, H⟩ := H
          replace H : (if t201 = true then ((verditerref06_has.f k1 ((rd_T53 l0 x6_1).f1) a1).bind fun t203 => (if t203 = true then (if x5_1.length < 17592186044416 then (verditerref06_mark.l0 k1 l0 a1 (x5_1 ++ [(-1)]) (wrap64 (x6_1 + 1))) else (none)) else (if x5_1.length < 17592186044416 then (verditerref06_mark.l0 k1 l0 a1 (x5_1 ++ [1]) (wrap64 (x6_1 + 1))) else (none)))) else ((verditerref06_has.f k1 ((rd_T53 l0 x6_1).f1) a1).bind fun t211 => (if t211 = true then (if x5_1.length < 17592186044416 then (verditerref06_mark.l0 k1 l0 a1 (x5_1 ++ [(-1)]) (wrap64 (x6_1 + 1))) else (none)) else (if x5_1.length < 17592186044416 then (verditerref06_mark.l0 k1 l0 a1 (x5_1 ++ [0]) (wrap64 (x6_1 + 1))) else (none))))) = some r := H
          have A5 := Aside0.mk A50
          clear A50
          by_cases c6 : t201 = true
          · subst c6
            have H1 : ((verditerref06_has.f k1 ((rd_T53 l0 x6_1).f1) a1).bind fun t203 => (if t203 = true then (if x5_1.length < 17592186044416 then (verditerref06_mark.l0 k1 l0 a1 (x5_1 ++ [(-1)]) (wrap64 (x6_1 + 1))) else (none)) else (if x5_1.length < 17592186044416 then (verditerref06_mark.l0 k1 l0 a1 (x5_1 ++ [1]) (wrap64 (x6_1 + 1))) else (none)))) = some r := by rw [if_pos rfl] at H; exact H
            clear H
            have H := H1
            clear H1
            replace H := Option.bind_eq_some_iff.mp H
            obtain ⟨t203, A70, H⟩ := H
            replace H : (if t203 = true then (if x5_1.length < 17592186044416 then (verditerref06_mark.l0 k1 l0 a1 (x5_1 ++ [(-1)]) (wrap64 (x6_1 + 1))) else (none)) else (if x5_1.length < 17592186044416 then (verditerref06_mark.l0 k1 l0 a1 (x5_1 ++ [1]) (wrap64 (x6_1 + 1))) else (none))) = some r := H
            have A7 := Aside0.mk A70
            clear A70
            by_cases c8 : t203 = true
            · subst c8
              have H1 : (if x5_1.length < 17592186044416 then (verditerref06_mark.l0 k1 l0 a1 (x5_1 ++ [(-1)]) (wrap64 (x6_1 + 1))) else (none)) = some r := by rw [if_pos rfl] at H; exact H
              clear H
              have H := H1
              clear H1
              by_cases c9 : x5_1.length < 17592186044416
              · rw [if_pos c9] at H
                have LMc9 := Aside0.mk c9
                clear c9
                obtain ⟨y204, hy204⟩ : ∃ y_ : List Int, y_ = (x5_1 ++ [(-1)]) := ⟨_, rfl⟩
                replace H : (verditerref06_mark.l0 k1 l0 a1 y204 (wrap64 (x6_1 + 1))) = some r := by first | (rw [hy204]; with_reducible exact H) | (have H2_ := (Option.bind_some _ _).symm.trans H; rw [hy204]; with_reducible exact H2_) | (have H2_ := (Option.bind_some _ _).symm.trans H; with_reducible exact H2_) | with_reducible exact H | (rw [hy204]; exact H) | exact H
                have Ny204 := Aside0.mk hy204
                clear hy204
                have H' := Aside0.mk H
                clear H
                have p200 : 0 ≤ (x6_1 : Int) := of_decide_eq_true (by first | (with_reducible assumption) | assumption)
                have q200 : x6_1 < (l0.length : Int) := of_decide_eq_true (by first | (with_reducible assumption) | assumption)
                obtain ⟨ad200, A200_0, c200_0, A200_1, c200_1, e200, hx200_0, hx200_1, hl200_0, hi200_0, hl200_1, hi200_1⟩ := at_T53 HR0.out x6_1 p200 q200
                cases e200
                replace hx200_0 := (HB.out.cell (World.block_lt_of_cell? w _ hx200_0)).trans hx200_0
                replace hx200_1 := (HB.out.cell (World.block_lt_of_cell? w _ hx200_1)).trans hx200_1
                have HR200_0 := Aside0.mk hi200_0
                have HC200_0 := Aside0.mk hl200_0
                clear hi200_0 hl200_0
                have HR200_1 := Aside0.mk hi200_1
                have HC200_1 := Aside0.mk hl200_1
                clear hi200_1 hl200_1
                replace p200 := eq_true p200
                replace q200 := eq_true q200
                go_wp2_with (first | ((with_reducible refine gate_callee (f := 101) rfl ?_); refine goesL_ (some 20) rfl rfl Try.func101 (by kernel_rfl) rfl #[.slice A200_0 ((rd_T53 l0 x6_1).f0).length c200_0, .int .i64 a1] rfl (by (try simp only [List.map_toArray, List.map_cons, List.map_nil]); first | done | rfl | (simp only [List.length_drop, List.length_take]; rfl)) ?_; (with_reducible refine (verditerref06_has.calls k1 _ _ ((rd_T53 l0 x6_1).f0) a1 true _ ?side1 ?side2 A5.out).mono ?_); (case side1 => repeat (first | exact (Kd.C_below HR200_0.out HB.out) | (with_reducible refine Kd.C_alloc ?_ _) | (with_reducible refine Kd.C_drewN ?_ _) | (with_reducible refine Kd.C_drew ?_))); (case side2 => exact HC200_0.out); rintro e w' ⟨rfl, ⟨nd, rfl⟩⟩; refine ⟨_, rfl, ?_⟩; have p202 : 0 ≤ (x6_1 : Int) := of_decide_eq_true (by first | (with_reducible assumption) | assumption); have q202 : x6_1 < (l0.length : Int) := of_decide_eq_true (by first | (with_reducible assumption) | assumption); obtain ⟨ad202, A202_0, c202_0, A202_1, c202_1, e202, hx202_0, hx202_1, hl202_0, hi202_0, hl202_1, hi202_1⟩ := at_T53 HR0.out x6_1 p202 q202; obtain rfl : ad200 = ad202 := (by injection e202); replace hx202_0 := (HB.out.cell (World.block_lt_of_cell? w _ hx202_0)).trans hx202_0; replace hx202_1 := (HB.out.cell (World.block_lt_of_cell? w _ hx202_1)).trans hx202_1; have HR202_0 := Aside0.mk hi202_0; have HC202_0 := Aside0.mk hl202_0; clear hi202_0 hl202_0; have HR202_1 := Aside0.mk hi202_1; have HC202_1 := Aside0.mk hl202_1; clear hi202_1 hl202_1; replace p202 := eq_true p202; replace q202 := eq_true q202; have ea_ := Option.some.inj (hx200_0.symm.trans hx202_0); injection ea_ with ea_ en_ ec_; subst ea_; subst ec_; clear en_; have ea_ := Option.some.inj (hx200_1.symm.trans hx202_1); injection ea_ with ea_ en_ ec_; subst ea_; subst ec_; clear en_) | ((with_reducible refine gate_callee (f := 101) rfl ?_); refine goesL_ (some 27) rfl rfl Try.func101 (by kernel_rfl) rfl #[.slice A200_1 ((rd_T53 l0 x6_1).f1).length c200_1, .int .i64 a1] rfl (by (try simp only [List.map_toArray, List.map_cons, List.map_nil]); first | done | rfl | (simp only [List.length_drop, List.length_take]; rfl)) ?_; (with_reducible refine (verditerref06_has.calls k1 _ _ ((rd_T53 l0 x6_1).f1) a1 true _ ?side1 ?side2 A7.out).mono ?_); (case side1 => repeat (first | exact (Kd.C_below HR202_1.out (by repeat (first | (with_reducible first | exact HB.out | apply below_alloc | apply pw_below_drewN | apply below_drew1) | exact HB.out))) | (with_reducible refine Kd.C_alloc ?_ _) | (with_reducible refine Kd.C_drewN ?_ _) | (with_reducible refine Kd.C_drew ?_))); (case side2 => exact HC202_1.out); rintro e w' ⟨rfl, ⟨nd, rfl⟩⟩; refine ⟨_, rfl, ?_⟩) | ((with_reducible refine gate_builtin (b := .append) (xs := #[.tmp 28, .tmp 30]) rfl ?_); at_builtin; refine Kd.R_append (Kd.int .i64) (w0 := w) w.heap.size rfl (.tmp 28) (.tmp 30) 43 3 (.int .i64 0) 8 rfl Try.underlying43 info3 rfl (by decide) (by omega) u5 x5_1 (-1) [.int .i64 (-1)] (fun _ => True) (fun _ => False) rfl rfl ?aP (fun _ hk => hk.elim) ?aF ?aO ?aB ?aS ?aL ?_; (case aP => exact rfl); (case aB => exact (by repeat (first | (with_reducible first | exact HB.out | apply below_alloc | apply pw_below_drewN | apply below_drew1) | exact HB.out))); (case aF => exact (fun _ _ => trivial)); (case aO => exact (by (with_reducible repeat (first | apply Kd.R_alloc | apply Kd.R_drewN | apply Kd.R_drew)); exact HO_5.out)); (case aS => exact (below_size (by repeat (first | (with_reducible first | exact HB.out | apply below_alloc | apply pw_below_drewN | apply below_drew1) | exact HB.out)))); (case aL => have := LMc9.out; omega); intro v205 w10 ho hb hg hat; rw [← Ny204.out] at ho; have n0_ := Aside0.mk (hb); have n1_ := Aside0.mk (ho); clear HB; clear HO_5; have HB := n0_; have HO206 := n1_; clear n0_ n1_; clear ho hb hg hat))
                go_roundg k1
                case measure => have := HK1.out; omega
                case rel => exact ⟨(y204), (wrap64 (x6_1 + 1)), (by first | rfl | (simp; done) | (simp [*]; done)), H', ⟨by have := HK1.out; omega⟩, ⟨by (with_reducible repeat (first | apply Kd.R_alloc | apply Kd.R_drewN | apply Kd.R_drew)); exact HO206.out⟩, ⟨by repeat (first | (with_reducible first | exact HB.out | apply below_alloc | apply pw_below_drewN | apply below_drew1) | exact HB.out)⟩⟩
              · rw [if_neg c9] at H
                exact absurd H (by simp)
            · replace c8 := Bool.eq_false_iff.mpr c8
              subst c8
              have H1 : (if x5_1.length < 17592186044416 then (verditerref06_mark.l0 k1 l0 a1 (x5_1 ++ [1]) (wrap64 (x6_1 + 1))) else (none)) = some r := by rw [if_neg (show ¬ (false = true) by decide)] at H; exact H
              clear H
              have H := H1
              clear H1
              by_cases c11 : x5_1.length < 17592186044416
              · rw [if_pos c11] at H
                have LMc11 := Aside0.mk c11
                clear c11
                obtain ⟨y207, hy207⟩ : ∃ y_ : List Int, y_ = (x5_1 ++ [1]) := ⟨_, rfl⟩
                replace H : (verditerref06_mark.l0 k1 l0 a1 y207 (wrap64 (x6_1 + 1))) = some r := by first | (rw [hy207]; with_reducible exact H) | (have H2_ := (Option.bind_some _ _).symm.trans H; rw [hy207]; with_reducible exact H2_) | (have H2_ := (Option.bind_some _ _).symm.trans H; with_reducible exact H2_) | with_reducible exact H | (rw [hy207]; exact H) | exact H
                have Ny207 := Aside0.mk hy207
                clear hy207
                have H' := Aside0.mk H
                clear H
                have p200 : 0 ≤ (x6_1 : Int) := of_decide_eq_true (by first | (with_reducible assumption) | assumption)
                have q200 : x6_1 < (l0.length : Int) := of_decide_eq_true (by first | (with_reducible assumption) | assumption)
                obtain ⟨ad200, A200_0, c200_0, A200_1, c200_1, e200, hx200_0, hx200_1, hl200_0, hi200_0, hl200_1, hi200_1⟩ := at_T53 HR0.out x6_1 p200 q200
                cases e200
                replace hx200_0 := (HB.out.cell (World.block_lt_of_cell? w _ hx200_0)).trans hx200_0
                replace hx200_1 := (HB.out.cell (World.block_lt_of_cell? w _ hx200_1)).trans hx200_1
                have HR200_0 := Aside0.mk hi200_0
                have HC200_0 := Aside0.mk hl200_0
                clear hi200_0 hl200_0
                have HR200_1 := Aside0.mk hi200_1
                have HC200_1 := Aside0.mk hl200_1
                clear hi200_1 hl200_1
                replace p200 := eq_true p200
                replace q200 := eq_true q200
                go_wp2_with (first | ((with_reducible refine gate_callee (f := 101) rfl ?_); refine goesL_ (some 20) rfl rfl Try.func101 (by kernel_rfl) rfl #[.slice A200_0 ((rd_T53 l0 x6_1).f0).length c200_0, .int .i64 a1] rfl (by (try simp only [List.map_toArray, List.map_cons, List.map_nil]); first | done | rfl | (simp only [List.length_drop, List.length_take]; rfl)) ?_; (with_reducible refine (verditerref06_has.calls k1 _ _ ((rd_T53 l0 x6_1).f0) a1 true _ ?side1 ?side2 A5.out).mono ?_); (case side1 => repeat (first | exact (Kd.C_below HR200_0.out HB.out) | (with_reducible refine Kd.C_alloc ?_ _) | (with_reducible refine Kd.C_drewN ?_ _) | (with_reducible refine Kd.C_drew ?_))); (case side2 => exact HC200_0.out); rintro e w' ⟨rfl, ⟨nd, rfl⟩⟩; refine ⟨_, rfl, ?_⟩; have p202 : 0 ≤ (x6_1 : Int) := of_decide_eq_true (by first | (with_reducible assumption) | assumption); have q202 : x6_1 < (l0.length : Int) := of_decide_eq_true (by first | (with_reducible assumption) | assumption); obtain ⟨ad202, A202_0, c202_0, A202_1, c202_1, e202, hx202_0, hx202_1, hl202_0, hi202_0, hl202_1, hi202_1⟩ := at_T53 HR0.out x6_1 p202 q202; obtain rfl : ad200 = ad202 := (by injection e202); replace hx202_0 := (HB.out.cell (World.block_lt_of_cell? w _ hx202_0)).trans hx202_0; replace hx202_1 := (HB.out.cell (World.block_lt_of_cell? w _ hx202_1)).trans hx202_1; have HR202_0 := Aside0.mk hi202_0; have HC202_0 := Aside0.mk hl202_0; clear hi202_0 hl202_0; have HR202_1 := Aside0.mk hi202_1; have HC202_1 := Aside0.mk hl202_1; clear hi202_1 hl202_1; replace p202 := eq_true p202; replace q202 := eq_true q202; have ea_ := Option.some.inj (hx200_0.symm.trans hx202_0); injection ea_ with ea_ en_ ec_; subst ea_; subst ec_; clear en_; have ea_ := Option.some.inj (hx200_1.symm.trans hx202_1); injection ea_ with ea_ en_ ec_; subst ea_; subst ec_; clear en_) | ((with_reducible refine gate_callee (f := 101) rfl ?_); refine goesL_ (some 27) rfl rfl Try.func101 (by kernel_rfl) rfl #[.slice A200_1 ((rd_T53 l0 x6_1).f1).length c200_1, .int .i64 a1] rfl (by (try simp only [List.map_toArray, List.map_cons, List.map_nil]); first | done | rfl | (simp only [List.length_drop, List.length_take]; rfl)) ?_; (with_reducible refine (verditerref06_has.calls k1 _ _ ((rd_T53 l0 x6_1).f1) a1 false _ ?side1 ?side2 A7.out).mono ?_); (case side1 => repeat (first | exact (Kd.C_below HR202_1.out (by repeat (first | (with_reducible first | exact HB.out | apply below_alloc | apply pw_below_drewN | apply below_drew1) | exact HB.out))) | (with_reducible refine Kd.C_alloc ?_ _) | (with_reducible refine Kd.C_drewN ?_ _) | (with_reducible refine Kd.C_drew ?_))); (case side2 => exact HC202_1.out); rintro e w' ⟨rfl, ⟨nd, rfl⟩⟩; refine ⟨_, rfl, ?_⟩) | ((with_reducible refine gate_builtin (b := .append) (xs := #[.tmp 28, .tmp 30]) rfl ?_); at_builtin; refine Kd.R_append (Kd.int .i64) (w0 := w) w.heap.size rfl (.tmp 28) (.tmp 30) 43 3 (.int .i64 0) 8 rfl Try.underlying43 info3 rfl (by decide) (by omega) u5 x5_1 1 [.int .i64 1] (fun _ => True) (fun _ => False) rfl rfl ?aP (fun _ hk => hk.elim) ?aF ?aO ?aB ?aS ?aL ?_; (case aP => exact rfl); (case aB => exact (by repeat (first | (with_reducible first | exact HB.out | apply below_alloc | apply pw_below_drewN | apply below_drew1) | exact HB.out))); (case aF => exact (fun _ _ => trivial)); (case aO => exact (by (with_reducible repeat (first | apply Kd.R_alloc | apply Kd.R_drewN | apply Kd.R_drew)); exact HO_5.out)); (case aS => exact (below_size (by repeat (first | (with_reducible first | exact HB.out | apply below_alloc | apply pw_below_drewN | apply below_drew1) | exact HB.out)))); (case aL => have := LMc11.out; omega); intro v208 w12 ho hb hg hat; rw [← Ny207.out] at ho; have n0_ := Aside0.mk (hb); have n1_ := Aside0.mk (ho); clear HB; clear HO_5; have HB := n0_; have HO209 := n1_; clear n0_ n1_; clear ho hb hg hat))
                go_roundg k1
                case measure => have := HK1.out; omega
                case rel => exact ⟨(y207), (wrap64 (x6_1 + 1)), (by first | rfl | (simp; done) | (simp [*]; done)), H', ⟨by have := HK1.out; omega⟩, ⟨by (with_reducible repeat (first | apply Kd.R_alloc | apply Kd.R_drewN | apply Kd.R_drew)); exact HO209.out⟩, ⟨by repeat (first | (with_reducible first | exact HB.out | apply below_alloc | apply pw_below_drewN | apply below_drew1) | exact HB.out)⟩⟩
              · rw [if_neg c11] at H
                exact absurd H (by simp)
          · replace c6 := Bool.eq_false_iff.mpr c6
            subst c6
            have H1 : ((verditerref06_has.f k1 ((rd_T53 l0 x6_1).f1) a1).bind fun t211 => (if t211 = true then (if x5_1.length < 17592186044416 then (verditerref06_mark.l0 k1 l0 a1 (x5_1 ++ [(-1)]) (wrap64 (x6_1 + 1))) else (none)) else (if x5_1.length < 17592186044416 then (verditerref06_mark.l0 k1 l0 a1 (x5_1 ++ [0]) (wrap64 (x6_1 + 1))) else (none)))) = some r := by rw [if_neg (show ¬ (false = true) by decide)] at H; exact H
            clear H
            have H := H1
            clear H1
            replace H := Option.bind_eq_some_iff.mp H
            obtain ⟨t211, A130, H⟩ := H
            replace H : (if t211 = true then (if x5_1.length < 17592186044416 then (verditerref06_mark.l0 k1 l0 a1 (x5_1 ++ [(-1)]) (wrap64 (x6_1 + 1))) else (none)) else (if x5_1.length < 17592186044416 then (verditerref06_mark.l0 k1 l0 a1 (x5_1 ++ [0]) (wrap64 (x6_1 + 1))) else (none))) = some r := H
            have A13 := Aside0.mk A130
            clear A130
            by_cases c14 : t211 = true
            · subst c14
              have H1 : (if x5_1.length < 17592186044416 then (verditerref06_mark.l0 k1 l0 a1 (x5_1 ++ [(-1)]) (wrap64 (x6_1 + 1))) else (none)) = some r := by rw [if_pos rfl] at H; exact H
              clear H
              have H := H1
              clear H1
              by_cases c15 : x5_1.length < 17592186044416
              · rw [if_pos c15] at H
                have LMc15 := Aside0.mk c15
                clear c15
                obtain ⟨y212, hy212⟩ : ∃ y_ : List Int, y_ = (x5_1 ++ [(-1)]) := ⟨_, rfl⟩
                replace H : (verditerref06_mark.l0 k1 l0 a1 y212 (wrap64 (x6_1 + 1))) = some r := by first | (rw [hy212]; with_reducible exact H) | (have H2_ := (Option.bind_some _ _).symm.trans H; rw [hy212]; with_reducible exact H2_) | (have H2_ := (Option.bind_some _ _).symm.trans H; with_reducible exact H2_) | with_reducible exact H | (rw [hy212]; exact H) | exact H
                have Ny212 := Aside0.mk hy212
                clear hy212
                have H' := Aside0.mk H
                clear H
                have p200 : 0 ≤ (x6_1 : Int) := of_decide_eq_true (by first | (with_reducible assumption) | assumption)
                have q200 : x6_1 < (l0.length : Int) := of_decide_eq_true (by first | (with_reducible assumption) | assumption)
                obtain ⟨ad200, A200_0, c200_0, A200_1, c200_1, e200, hx200_0, hx200_1, hl200_0, hi200_0, hl200_1, hi200_1⟩ := at_T53 HR0.out x6_1 p200 q200
                cases e200
                replace hx200_0 := (HB.out.cell (World.block_lt_of_cell? w _ hx200_0)).trans hx200_0
                replace hx200_1 := (HB.out.cell (World.block_lt_of_cell? w _ hx200_1)).trans hx200_1
                have HR200_0 := Aside0.mk hi200_0
                have HC200_0 := Aside0.mk hl200_0
                clear hi200_0 hl200_0
                have HR200_1 := Aside0.mk hi200_1
                have HC200_1 := Aside0.mk hl200_1
                clear hi200_1 hl200_1
                replace p200 := eq_true p200
                replace q200 := eq_true q200
                go_wp2_with (first | ((with_reducible refine gate_callee (f := 101) rfl ?_); refine goesL_ (some 20) rfl rfl Try.func101 (by kernel_rfl) rfl #[.slice A200_0 ((rd_T53 l0 x6_1).f0).length c200_0, .int .i64 a1] rfl (by (try simp only [List.map_toArray, List.map_cons, List.map_nil]); first | done | rfl | (simp only [List.length_drop, List.length_take]; rfl)) ?_; (with_reducible refine (verditerref06_has.calls k1 _ _ ((rd_T53 l0 x6_1).f0) a1 false _ ?side1 ?side2 A5.out).mono ?_); (case side1 => repeat (first | exact (Kd.C_below HR200_0.out HB.out) | (with_reducible refine Kd.C_alloc ?_ _) | (with_reducible refine Kd.C_drewN ?_ _) | (with_reducible refine Kd.C_drew ?_))); (case side2 => exact HC200_0.out); rintro e w' ⟨rfl, ⟨nd, rfl⟩⟩; refine ⟨_, rfl, ?_⟩; have p210 : 0 ≤ (x6_1 : Int) := of_decide_eq_true (by first | (with_reducible assumption) | assumption); have q210 : x6_1 < (l0.length : Int) := of_decide_eq_true (by first | (with_reducible assumption) | assumption); obtain ⟨ad210, A210_0, c210_0, A210_1, c210_1, e210, hx210_0, hx210_1, hl210_0, hi210_0, hl210_1, hi210_1⟩ := at_T53 HR0.out x6_1 p210 q210; obtain rfl : ad200 = ad210 := (by injection e210); replace hx210_0 := (HB.out.cell (World.block_lt_of_cell? w _ hx210_0)).trans hx210_0; replace hx210_1 := (HB.out.cell (World.block_lt_of_cell? w _ hx210_1)).trans hx210_1; have HR210_0 := Aside0.mk hi210_0; have HC210_0 := Aside0.mk hl210_0; clear hi210_0 hl210_0; have HR210_1 := Aside0.mk hi210_1; have HC210_1 := Aside0.mk hl210_1; clear hi210_1 hl210_1; replace p210 := eq_true p210; replace q210 := eq_true q210; have ea_ := Option.some.inj (hx200_0.symm.trans hx210_0); injection ea_ with ea_ en_ ec_; subst ea_; subst ec_; clear en_; have ea_ := Option.some.inj (hx200_1.symm.trans hx210_1); injection ea_ with ea_ en_ ec_; subst ea_; subst ec_; clear en_) | ((with_reducible refine gate_callee (f := 101) rfl ?_); refine goesL_ (some 27) rfl rfl Try.func101 (by kernel_rfl) rfl #[.slice A200_1 ((rd_T53 l0 x6_1).f1).length c200_1, .int .i64 a1] rfl (by (try simp only [List.map_toArray, List.map_cons, List.map_nil]); first | done | rfl | (simp only [List.length_drop, List.length_take]; rfl)) ?_; (with_reducible refine (verditerref06_has.calls k1 _ _ ((rd_T53 l0 x6_1).f1) a1 true _ ?side1 ?side2 A13.out).mono ?_); (case side1 => repeat (first | exact (Kd.C_below HR210_1.out (by repeat (first | (with_reducible first | exact HB.out | apply below_alloc | apply pw_below_drewN | apply below_drew1) | exact HB.out))) | (with_reducible refine Kd.C_alloc ?_ _) | (with_reducible refine Kd.C_drewN ?_ _) | (with_reducible refine Kd.C_drew ?_))); (case side2 => exact HC210_1.out); rintro e w' ⟨rfl, ⟨nd, rfl⟩⟩; refine ⟨_, rfl, ?_⟩) | ((with_reducible refine gate_builtin (b := .append) (xs := #[.tmp 28, .tmp 30]) rfl ?_); at_builtin; refine Kd.R_append (Kd.int .i64) (w0 := w) w.heap.size rfl (.tmp 28) (.tmp 30) 43 3 (.int .i64 0) 8 rfl Try.underlying43 info3 rfl (by decide) (by omega) u5 x5_1 (-1) [.int .i64 (-1)] (fun _ => True) (fun _ => False) rfl rfl ?aP (fun _ hk => hk.elim) ?aF ?aO ?aB ?aS ?aL ?_; (case aP => exact rfl); (case aB => exact (by repeat (first | (with_reducible first | exact HB.out | apply below_alloc | apply pw_below_drewN | apply below_drew1) | exact HB.out))); (case aF => exact (fun _ _ => trivial)); (case aO => exact (by (with_reducible repeat (first | apply Kd.R_alloc | apply Kd.R_drewN | apply Kd.R_drew)); exact HO_5.out)); (case aS => exact (below_size (by repeat (first | (with_reducible first | exact HB.out | apply below_alloc | apply pw_below_drewN | apply below_drew1) | exact HB.out)))); (case aL => have := LMc15.out; omega); intro v213 w16 ho hb hg hat; rw [← Ny212.out] at ho; have n0_ := Aside0.mk (hb); have n1_ := Aside0.mk (ho); clear HB; clear HO_5; have HB := n0_; have HO214 := n1_; clear n0_ n1_; clear ho hb hg hat))
                go_roundg k1
                case measure => have := HK1.out; omega
                case rel => exact ⟨(y212), (wrap64 (x6_1 + 1)), (by first | rfl | (simp; done) | (simp [*]; done)), H', ⟨by have := HK1.out; omega⟩, ⟨by (with_reducible repeat (first | apply Kd.R_alloc | apply Kd.R_drewN | apply Kd.R_drew)); exact HO214.out⟩, ⟨by repeat (first | (with_reducible first | exact HB.out | apply below_alloc | apply pw_below_drewN | apply below_drew1) | exact HB.out)⟩⟩
              · rw [if_neg c15] at H
                exact absurd H (by simp)
            · replace c14 := Bool.eq_false_iff.mpr c14
              subst c14
              have H1 : (if x5_1.length < 17592186044416 then (verditerref06_mark.l0 k1 l0 a1 (x5_1 ++ [0]) (wrap64 (x6_1 + 1))) else (none)) = some r := by rw [if_neg (show ¬ (false = true) by decide)] at H; exact H
              clear H
              have H := H1
              clear H1
              by_cases c17 : x5_1.length < 17592186044416
              · rw [if_pos c17] at H
                have LMc17 := Aside0.mk c17
                clear c17
                obtain ⟨y215, hy215⟩ : ∃ y_ : List Int, y_ = (x5_1 ++ [0]) := ⟨_, rfl⟩
                replace H : (verditerref06_mark.l0 k1 l0 a1 y215 (wrap64 (x6_1 + 1))) = some r := by first | (rw [hy215]; with_reducible exact H) | (have H2_ := (Option.bind_some _ _).symm.trans H; rw [hy215]; with_reducible exact H2_) | (have H2_ := (Option.bind_some _ _).symm.trans H; with_reducible exact H2_) | with_reducible exact H | (rw [hy215]; exact H) | exact H
                have Ny215 := Aside0.mk hy215
                clear hy215
                have H' := Aside0.mk H
                clear H
                have p200 : 0 ≤ (x6_1 : Int) := of_decide_eq_true (by first | (with_reducible assumption) | assumption)
                have q200 : x6_1 < (l0.length : Int) := of_decide_eq_true (by first | (with_reducible assumption) | assumption)
                obtain ⟨ad200, A200_0, c200_0, A200_1, c200_1, e200, hx200_0, hx200_1, hl200_0, hi200_0, hl200_1, hi200_1⟩ := at_T53 HR0.out x6_1 p200 q200
                cases e200
                replace hx200_0 := (HB.out.cell (World.block_lt_of_cell? w _ hx200_0)).trans hx200_0
                replace hx200_1 := (HB.out.cell (World.block_lt_of_cell? w _ hx200_1)).trans hx200_1
                have HR200_0 := Aside0.mk hi200_0
                have HC200_0 := Aside0.mk hl200_0
                clear hi200_0 hl200_0
                have HR200_1 := Aside0.mk hi200_1
                have HC200_1 := Aside0.mk hl200_1
                clear hi200_1 hl200_1
                replace p200 := eq_true p200
                replace q200 := eq_true q200
                go_wp2_with (first | ((with_reducible refine gate_callee (f := 101) rfl ?_); refine goesL_ (some 20) rfl rfl Try.func101 (by kernel_rfl) rfl #[.slice A200_0 ((rd_T53 l0 x6_1).f0).length c200_0, .int .i64 a1] rfl (by (try simp only [List.map_toArray, List.map_cons, List.map_nil]); first | done | rfl | (simp only [List.length_drop, List.length_take]; rfl)) ?_; (with_reducible refine (verditerref06_has.calls k1 _ _ ((rd_T53 l0 x6_1).f0) a1 false _ ?side1 ?side2 A5.out).mono ?_); (case side1 => repeat (first | exact (Kd.C_below HR200_0.out HB.out) | (with_reducible refine Kd.C_alloc ?_ _) | (with_reducible refine Kd.C_drewN ?_ _) | (with_reducible refine Kd.C_drew ?_))); (case side2 => exact HC200_0.out); rintro e w' ⟨rfl, ⟨nd, rfl⟩⟩; refine ⟨_, rfl, ?_⟩; have p210 : 0 ≤ (x6_1 : Int) := of_decide_eq_true (by first | (with_reducible assumption) | assumption); have q210 : x6_1 < (l0.length : Int) := of_decide_eq_true (by first | (with_reducible assumption) | assumption); obtain ⟨ad210, A210_0, c210_0, A210_1, c210_1, e210, hx210_0, hx210_1, hl210_0, hi210_0, hl210_1, hi210_1⟩ := at_T53 HR0.out x6_1 p210 q210; obtain rfl : ad200 = ad210 := (by injection e210); replace hx210_0 := (HB.out.cell (World.block_lt_of_cell? w _ hx210_0)).trans hx210_0; replace hx210_1 := (HB.out.cell (World.block_lt_of_cell? w _ hx210_1)).trans hx210_1; have HR210_0 := Aside0.mk hi210_0; have HC210_0 := Aside0.mk hl210_0; clear hi210_0 hl210_0; have HR210_1 := Aside0.mk hi210_1; have HC210_1 := Aside0.mk hl210_1; clear hi210_1 hl210_1; replace p210 := eq_true p210; replace q210 := eq_true q210; have ea_ := Option.some.inj (hx200_0.symm.trans hx210_0); injection ea_ with ea_ en_ ec_; subst ea_; subst ec_; clear en_; have ea_ := Option.some.inj (hx200_1.symm.trans hx210_1); injection ea_ with ea_ en_ ec_; subst ea_; subst ec_; clear en_) | ((with_reducible refine gate_callee (f := 101) rfl ?_); refine goesL_ (some 27) rfl rfl Try.func101 (by kernel_rfl) rfl #[.slice A200_1 ((rd_T53 l0 x6_1).f1).length c200_1, .int .i64 a1] rfl (by (try simp only [List.map_toArray, List.map_cons, List.map_nil]); first | done | rfl | (simp only [List.length_drop, List.length_take]; rfl)) ?_; (with_reducible refine (verditerref06_has.calls k1 _ _ ((rd_T53 l0 x6_1).f1) a1 false _ ?side1 ?side2 A13.out).mono ?_); (case side1 => repeat (first | exact (Kd.C_below HR210_1.out (by repeat (first | (with_reducible first | exact HB.out | apply below_alloc | apply pw_below_drewN | apply below_drew1) | exact HB.out))) | (with_reducible refine Kd.C_alloc ?_ _) | (with_reducible refine Kd.C_drewN ?_ _) | (with_reducible refine Kd.C_drew ?_))); (case side2 => exact HC210_1.out); rintro e w' ⟨rfl, ⟨nd, rfl⟩⟩; refine ⟨_, rfl, ?_⟩) | ((with_reducible refine gate_builtin (b := .append) (xs := #[.tmp 28, .tmp 30]) rfl ?_); at_builtin; refine Kd.R_append (Kd.int .i64) (w0 := w) w.heap.size rfl (.tmp 28) (.tmp 30) 43 3 (.int .i64 0) 8 rfl Try.underlying43 info3 rfl (by decide) (by omega) u5 x5_1 0 [.int .i64 0] (fun _ => True) (fun _ => False) rfl rfl ?aP (fun _ hk => hk.elim) ?aF ?aO ?aB ?aS ?aL ?_; (case aP => exact rfl); (case aB => exact (by repeat (first | (with_reducible first | exact HB.out | apply below_alloc | apply pw_below_drewN | apply below_drew1) | exact HB.out))); (case aF => exact (fun _ _ => trivial)); (case aO => exact (by (with_reducible repeat (first | apply Kd.R_alloc | apply Kd.R_drewN | apply Kd.R_drew)); exact HO_5.out)); (case aS => exact (below_size (by repeat (first | (with_reducible first | exact HB.out | apply below_alloc | apply pw_below_drewN | apply below_drew1) | exact HB.out)))); (case aL => have := LMc17.out; omega); intro v216 w18 ho hb hg hat; rw [← Ny215.out] at ho; have n0_ := Aside0.mk (hb); have n1_ := Aside0.mk (ho); clear HB; clear HO_5; have HB := n0_; have HO217 := n1_; clear n0_ n1_; clear ho hb hg hat))
                go_roundg k1
                case measure => have := HK1.out; omega
                case rel => exact ⟨(y215), (wrap64 (x6_1 + 1)), (by first | rfl | (simp; done) | (simp [*]; done)), H', ⟨by have := HK1.out; omega⟩, ⟨by (with_reducible repeat (first | apply Kd.R_alloc | apply Kd.R_drewN | apply Kd.R_drew)); exact HO217.out⟩, ⟨by repeat (first | (with_reducible first | exact HB.out | apply below_alloc | apply pw_below_drewN | apply below_drew1) | exact HB.out)⟩⟩
              · rw [if_neg c17] at H
                exact absurd H (by simp)
        · rw [if_neg c4] at H
          exact absurd H (by simp)
      · rw [if_neg c3] at H
        have c3b0 : decide (x6_1 < (l0.length : Int)) = false := decide_eq_false c3
        clear c3
        obtain rfl := Option.some.inj H
        go_wp2
        go_ret
        exact ⟨_, by first | rfl | (simp [errW_none, errW_some] <;> rfl) | (simp [*, errW_none, errW_some] <;> rfl), by (with_reducible repeat (first | apply Kd.R_alloc | apply Kd.R_drewN | apply Kd.R_drew)); exact HO_5.out, by repeat (first | (with_reducible first | exact HB.out | apply below_alloc | apply pw_below_drewN | apply below_drew1) | exact HB.out)⟩

end Go.Proofs.Ytdbeochifofdoaa.X
end

section
-- Written by a program of this session (wip/hook.py, which runs the kit's print.py with contracts proved by hand). Not trusted: Lean checks it.
namespace Go.Proofs.Ytdbeochifofdoaa.X
open Go.RowKit Go.Proofs.YtdbeochifofdoaaW.PrintWords Go.Proofs.YtdbeochifofdoaaW.PrintLast Go.Proofs.YtdbeochifofdoaaW.PrintMore
attribute [local go_sem] max2_int min2_int max_two min_two max_three min_three max_four min_four   -- for this text's walks alone
set_option linter.unusedVariables false
set_option linter.unusedSimpArgs false

/-! ### verditerref06_cased: function 78 -/
mutual
def verditerref06_cased.l0 : Nat → Int → List (S35) → Int → Option (Int)
  | 0, _, _, _ => none
  | k + 1, x0, x2, x8 => if x8 < (x2.length : Int) then (if 0 ≤ x8 then ((verditerref06_within.f ((rd_T35 x2 x8).f0) 0 (wrap64 (x0 - 1))).bind fun t257 => (if t257 = true then (verditerref06_cased.l0 k x0 x2 (wrap64 (x8 + 1))) else (some 4))) else (none)) else (verditerref06_cased.l1 k x2 0)
def verditerref06_cased.l1 : Nat → List (S35) → Int → Option (Int)
  | 0, _, _ => none
  | k + 1, x2, x9 => if x9 < (x2.length : Int) then (if 0 ≤ x9 then (if ((rd_T35 x2 x9).f1) = 1 then (verditerref06_cased.l1 k x2 (wrap64 (x9 + 1))) else (if ((rd_T35 x2 x9).f1) = (-1) then (verditerref06_cased.l1 k x2 (wrap64 (x9 + 1))) else (some 1))) else (none)) else (some 0)
end
def verditerref06_cased.f (k : Nat) (a0 : Int) (l1 : List (S53)) (l2 : List (S35)) : Option (Int) := (verditerref06_Validate.f k a0 l1).bind fun t255 => (if t255 = 0 then (verditerref06_cased.l0 k a0 l2 0) else (some t255))
theorem verditerref06_cased.mono_l : ∀ k, (∀ y0 y1 y2, LeO (verditerref06_cased.l0 k y0 y1 y2) (verditerref06_cased.l0 (k + 1) y0 y1 y2)) ∧ (∀ y0 y1, LeO (verditerref06_cased.l1 k y0 y1) (verditerref06_cased.l1 (k + 1) y0 y1))
  | 0 => ⟨fun _ _ _ r h => by simp [verditerref06_cased.l0] at h, fun _ _ r h => by simp [verditerref06_cased.l1] at h⟩
  | k + 1 => by
    obtain ⟨ih0, ih1⟩ := verditerref06_cased.mono_l k
    refine ⟨?_, ?_⟩
    · intro y0 y1 y2
      unfold verditerref06_cased.l0
      repeat' first
      | (with_reducible exact ih0 _ _ _)
      | (with_reducible exact ih1 _ _)
      | (with_reducible exact verditerref06_Validate.mono _ _ _)
      | (with_reducible exact LeO.refl _)
      | (with_reducible exact LeO.none _)
      | (with_reducible refine LeO.ite ?_ ?_)
      | (with_reducible refine LeO.bind ?_ (fun _ => ?_))
      | exact ih0 _ _ _
      | exact ih1 _ _
      | exact verditerref06_Validate.mono _ _ _
      | exact LeO.none _
      | refine LeO.ite ?_ ?_
      | refine LeO.bind ?_ (fun _ => ?_)
    · intro y0 y1
      unfold verditerref06_cased.l1
      repeat' first
      | (with_reducible exact ih0 _ _ _)
      | (with_reducible exact ih1 _ _)
      | (with_reducible exact verditerref06_Validate.mono _ _ _)
      | (with_reducible exact LeO.refl _)
      | (with_reducible exact LeO.none _)
      | (with_reducible refine LeO.ite ?_ ?_)
      | (with_reducible refine LeO.bind ?_ (fun _ => ?_))
      | exact ih0 _ _ _
      | exact ih1 _ _
      | exact verditerref06_Validate.mono _ _ _
      | exact LeO.none _
      | refine LeO.ite ?_ ?_
      | refine LeO.bind ?_ (fun _ => ?_)
theorem verditerref06_cased.mono : ∀ a0 a1 a2 k, LeO (verditerref06_cased.f k a0 a1 a2) (verditerref06_cased.f (k + 1) a0 a1 a2) := by
  intro a0 a1 a2 k
  obtain ⟨ih0, ih1⟩ := verditerref06_cased.mono_l k
  unfold verditerref06_cased.f
  repeat' first
      | (with_reducible exact ih0 _ _ _)
      | (with_reducible exact ih1 _ _)
      | (with_reducible exact verditerref06_Validate.mono _ _ _)
      | (with_reducible exact LeO.refl _)
      | (with_reducible exact LeO.none _)
      | (with_reducible refine LeO.ite ?_ ?_)
      | (with_reducible refine LeO.bind ?_ (fun _ => ?_))
      | exact ih0 _ _ _
      | exact ih1 _ _
      | exact verditerref06_Validate.mono _ _ _
      | exact LeO.none _
      | refine LeO.ite ?_ ?_
      | refine LeO.bind ?_ (fun _ => ?_)
set_option maxHeartbeats 8000000 in
set_option maxRecDepth 100000 in
theorem verditerref06_cased.calls (k : Nat) (a0 : Int) (A1 : Option Addr) (c1 : Nat) (l1 : List (S53)) (A2 : Option Addr) (c2 : Nat) (l2 : List (S35)) (r : Int) (w : World) (hr1 : Kd.C k53 w A1 l1.length l1) (hc1 : l1.length ≤ c1) (hr2 : Kd.C k35 w A2 l2.length l2) (hc2 : l2.length ≤ c2) (h : verditerref06_cased.f k a0 l1 l2 = some r) :
    Calls Try.prog 78 #[.int .i64 a0, .slice A1 l1.length c1, .slice A2 l2.length c2] w fun e w' => e = .returned (.int .i64 r) ∧ Drawn0 w w' := by
  have HR1 := Aside0.mk hr1
  have HC1 := Aside0.mk hc1
  clear hr1 hc1
  have HR2 := Aside0.mk hr2
  have HC2 := Aside0.mk hc2
  clear hr2 hc2
  have H : ((verditerref06_Validate.f k a0 l1).bind fun t255 => (if t255 = 0 then (verditerref06_cased.l0 k a0 l2 0) else (some t255))) = some r := h
  clear h
  replace H := Option.bind_eq_some_iff.mp H
  obtain ⟨t255, A40, H⟩ := H
  replace H : (if t255 = 0 then (verditerref06_cased.l0 k a0 l2 0) else (some t255)) = some r := H
  have A4 := Aside0.mk A40
  clear A40
  by_cases c5 : t255 = 0
  · rw [if_pos c5] at H
    have c5b0 : (t255 == 0) = true := beq_iff_eq.mpr c5
    have c5b1 : (t255 != 0) = false := bne_eq_false_iff_eq.mpr c5
    clear c5
    have H' := Aside0.mk H
    clear H
    go_enter Try.func78, Try.ntmps78
    go_wp2_with (first | ((with_reducible refine gate_callee (f := 59) rfl ?_); refine goesL_ (some 12) rfl rfl Try.func59 (by kernel_rfl) rfl #[.int .i64 a0, .slice A1 l1.length c1] rfl (by (try simp only [List.map_toArray, List.map_cons, List.map_nil]); first | done | rfl | (simp only [List.length_drop, List.length_take]; rfl)) ?_; (with_reducible refine (verditerref06_Validate.calls k a0 _ _ l1 t255 _ ?side1 ?side2 A4.out).mono ?_); (case side1 => repeat (first | exact HR1.out | (with_reducible refine Kd.C_alloc ?_ _) | (with_reducible refine Kd.C_drewN ?_ _) | (with_reducible refine Kd.C_drew ?_))); (case side2 => exact HC1.out); rintro e w' ⟨rfl, ⟨nd, rfl⟩⟩; refine ⟨_, rfl, ?_⟩))
    go_loopg [8] k (fun kq v8 w' => ∃ (x8_1 : Int), v8 = .int .i64 x8_1 ∧ Aside0 (verditerref06_cased.l0 kq a0 l2 x8_1 = some r) ∧ Aside0 (kq ≤ k) ∧ Drawn0 w w')
    case atStart => exact ⟨(0), (by first | rfl | (simp; done) | (simp [*]; done)), H', ⟨Nat.le_refl _⟩, by repeat (first | exact Drawn0.refl _ | apply Drawn0.step)⟩
    case round =>
      clear H'
      try clear c1
      try clear c2
      try clear p2
      try clear c5
      try clear c5b0
      try clear c5b1
      obtain ⟨x8_1, rfl, HA, HK1, ⟨m1, rfl⟩⟩ := hrel
      cases gk with
      | zero => exact absurd HA.out (by simp [verditerref06_cased.l0])
      | succ k1 =>
        have H := HA.out
        clear HA
        simp only [verditerref06_cased.l0] at H
        by_cases c6 : x8_1 < (l2.length : Int)
        · rw [if_pos c6] at H
          have c6b0 : decide (x8_1 < (l2.length : Int)) = true := decide_eq_true c6
          clear c6
          by_cases c7 : 0 ≤ x8_1
          · rw [if_pos c7] at H
            have c7b0 : decide (0 ≤ x8_1) = true := decide_eq_true c7
            clear c7
            replace H := Option.bind_eq_some_iff.mp H
            obtain ⟨t257, A80, H⟩ := H
            replace H : (if t257 = true then (verditerref06_cased.l0 k1 a0 l2 (wrap64 (x8_1 + 1))) else (some 4)) = some r := H
            have A8 := Aside0.mk A80
            clear A80
            by_cases c9 : t257 = true
            · subst c9
              have H1 : (verditerref06_cased.l0 k1 a0 l2 (wrap64 (x8_1 + 1))) = some r := by rw [if_pos rfl] at H; exact H
              clear H
              have H := H1
              clear H1
              have H' := Aside0.mk H
              clear H
              have p256 : 0 ≤ (x8_1 : Int) := of_decide_eq_true (by first | (with_reducible assumption) | assumption)
              have q256 : x8_1 < (l2.length : Int) := of_decide_eq_true (by first | (with_reducible assumption) | assumption)
              obtain ⟨ad256, e256, hx256_0, hx256_1⟩ := at_T35 HR2.out x8_1 p256 q256
              cases e256
              replace p256 := eq_true p256
              replace q256 := eq_true q256
              go_wp2_with (first | ((with_reducible refine gate_callee (f := 82) rfl ?_); refine goesL_ (some 29) rfl rfl Try.func82 (by kernel_rfl) rfl #[.int .i64 ((rd_T35 l2 x8_1).f0), .int .i64 0, .int .i64 (wrap64 (a0 - 1))] rfl (by (try simp only [List.map_toArray, List.map_cons, List.map_nil]); first | done | rfl | (simp only [List.length_drop, List.length_take]; rfl)) ?_; (with_reducible refine (verditerref06_within.calls ((rd_T35 l2 x8_1).f0) 0 (wrap64 (a0 - 1)) true _ A8.out).mono ?_); rintro e w' ⟨rfl, ⟨nd, rfl⟩⟩; refine ⟨_, rfl, ?_⟩))
              go_roundg k1
              case measure => have := HK1.out; omega
              case rel => exact ⟨(wrap64 (x8_1 + 1)), (by first | rfl | (simp; done) | (simp [*]; done)), H', ⟨by have := HK1.out; omega⟩, by repeat (first | exact Drawn0.refl _ | apply Drawn0.step)⟩
            · replace c9 := Bool.eq_false_iff.mpr c9
              subst c9
              have H1 : (some 4) = some r := by rw [if_neg (show ¬ (false = true) by decide)] at H; exact H
              clear H
              have H := H1
              clear H1
              obtain rfl := Option.some.inj H
              have p256 : 0 ≤ (x8_1 : Int) := of_decide_eq_true (by first | (with_reducible assumption) | assumption)
              have q256 : x8_1 < (l2.length : Int) := of_decide_eq_true (by first | (with_reducible assumption) | assumption)
              obtain ⟨ad256, e256, hx256_0, hx256_1⟩ := at_T35 HR2.out x8_1 p256 q256
              cases e256
              replace p256 := eq_true p256
              replace q256 := eq_true q256
              go_wp2_with (first | ((with_reducible refine gate_callee (f := 82) rfl ?_); refine goesL_ (some 29) rfl rfl Try.func82 (by kernel_rfl) rfl #[.int .i64 ((rd_T35 l2 x8_1).f0), .int .i64 0, .int .i64 (wrap64 (a0 - 1))] rfl (by (try simp only [List.map_toArray, List.map_cons, List.map_nil]); first | done | rfl | (simp only [List.length_drop, List.length_take]; rfl)) ?_; (with_reducible refine (verditerref06_within.calls ((rd_T35 l2 x8_1).f0) 0 (wrap64 (a0 - 1)) false _ A8.out).mono ?_); rintro e w' ⟨rfl, ⟨nd, rfl⟩⟩; refine ⟨_, rfl, ?_⟩))
              go_ret
              exact ⟨by first | rfl | (simp; done) | (simp [*]; done), by repeat (first | exact Drawn0.refl _ | apply Drawn0.step)⟩
          · rw [if_neg c7] at H
            exact absurd H (by simp)
        · rw [if_neg c6] at H
          have c6b0 : decide (x8_1 < (l2.length : Int)) = false := decide_eq_false c6
          clear c6
          have H' := Aside0.mk H
          clear H
          go_wp2
          go_loopg [9] k1 (fun kq v9 w' => ∃ (x9_2 : Int), v9 = .int .i64 x9_2 ∧ Aside0 (verditerref06_cased.l1 kq l2 x9_2 = some r) ∧ Aside0 (kq ≤ k1) ∧ Drawn0 w w')
          case atStart => exact ⟨(0), (by first | rfl | (simp; done) | (simp [*]; done)), H', ⟨Nat.le_refl _⟩, by repeat (first | exact Drawn0.refl _ | apply Drawn0.step)⟩
          case round =>
            clear H'
            try clear c1
            try clear c2
            try clear p2
            try clear q2
            try clear hx2
            try clear c5
            try clear c5b0
            try clear c5b1
            try clear c6
            try clear c6b0
            try clear p6
            try clear c7
            try clear c7b0
            try clear c8
            try clear c9
            try clear hx256_0
            try clear hx256_1
            try clear p2
            try clear p256
            try clear q256
            obtain ⟨x9_2, rfl, HA, HK2, ⟨m2, rfl⟩⟩ := hrel
            cases gk with
            | zero => exact absurd HA.out (by simp [verditerref06_cased.l1])
            | succ k2 =>
              have H := HA.out
              clear HA
              simp only [verditerref06_cased.l1] at H
              by_cases c10 : x9_2 < (l2.length : Int)
              · rw [if_pos c10] at H
                have c10b0 : decide (x9_2 < (l2.length : Int)) = true := decide_eq_true c10
                clear c10
                by_cases c11 : 0 ≤ x9_2
                · rw [if_pos c11] at H
                  have c11b0 : decide (0 ≤ x9_2) = true := decide_eq_true c11
                  clear c11
                  by_cases c12 : ((rd_T35 l2 x9_2).f1) = 1
                  · rw [if_pos c12] at H
                    have c12b0 : (((rd_T35 l2 x9_2).f1) == 1) = true := beq_iff_eq.mpr c12
                    have c12b1 : (((rd_T35 l2 x9_2).f1) != 1) = false := bne_eq_false_iff_eq.mpr c12
                    clear c12
                    have H' := Aside0.mk H
                    clear H
                    have p258 : 0 ≤ (x9_2 : Int) := of_decide_eq_true (by first | (with_reducible assumption) | assumption)
                    have q258 : x9_2 < (l2.length : Int) := of_decide_eq_true (by first | (with_reducible assumption) | assumption)
                    obtain ⟨ad258, e258, hx258_0, hx258_1⟩ := at_T35 HR2.out x9_2 p258 q258
                    cases e258
                    replace p258 := eq_true p258
                    replace q258 := eq_true q258
                    go_wp2
                    go_roundg k2
                    case measure => have := HK1.out; have := HK2.out; omega
                    case rel => exact ⟨(wrap64 (x9_2 + 1)), (by first | rfl | (simp; done) | (simp [*]; done)), H', ⟨by have := HK1.out; have := HK2.out; omega⟩, by repeat (first | exact Drawn0.refl _ | apply Drawn0.step)⟩
                  · rw [if_neg c12] at H
                    have c12b0 : (((rd_T35 l2 x9_2).f1) == 1) = false := beq_eq_false_iff_ne.mpr c12
                    have c12b1 : (((rd_T35 l2 x9_2).f1) != 1) = true := bne_iff_ne.mpr c12
                    by_cases c13 : ((rd_T35 l2 x9_2).f1) = (-1)
                    · rw [if_pos c13] at H
                      have c13b0 : (((rd_T35 l2 x9_2).f1) == (-1)) = true := beq_iff_eq.mpr c13
                      have c13b1 : (((rd_T35 l2 x9_2).f1) != (-1)) = false := bne_eq_false_iff_eq.mpr c13
                      clear c13
                      have H' := Aside0.mk H
                      clear H
                      have p258 : 0 ≤ (x9_2 : Int) := of_decide_eq_true (by first | (with_reducible assumption) | assumption)
                      have q258 : x9_2 < (l2.length : Int) := of_decide_eq_true (by first | (with_reducible assumption) | assumption)
                      obtain ⟨ad258, e258, hx258_0, hx258_1⟩ := at_T35 HR2.out x9_2 p258 q258
                      cases e258
                      replace p258 := eq_true p258
                      replace q258 := eq_true q258
                      have p259 : 0 ≤ (x9_2 : Int) := of_decide_eq_true (by first | (with_reducible assumption) | assumption)
                      have q259 : x9_2 < (l2.length : Int) := of_decide_eq_true (by first | (with_reducible assumption) | assumption)
                      obtain ⟨ad259, e259, hx259_0, hx259_1⟩ := at_T35 HR2.out x9_2 p259 q259
                      obtain rfl : ad258 = ad259 := (by injection e259)
                      replace p259 := eq_true p259
                      replace q259 := eq_true q259
                      go_wp2
                      go_roundg k2
                      case measure => have := HK1.out; have := HK2.out; omega
                      case rel => exact ⟨(wrap64 (x9_2 + 1)), (by first | rfl | (simp; done) | (simp [*]; done)), H', ⟨by have := HK1.out; have := HK2.out; omega⟩, by repeat (first | exact Drawn0.refl _ | apply Drawn0.step)⟩
                    · rw [if_neg c13] at H
                      have c13b0 : (((rd_T35 l2 x9_2).f1) == (-1)) = false := beq_eq_false_iff_ne.mpr c13
                      have c13b1 : (((rd_T35 l2 x9_2).f1) != (-1)) = true := bne_iff_ne.mpr c13
                      obtain rfl := Option.some.inj H
                      have p258 : 0 ≤ (x9_2 : Int) := of_decide_eq_true (by first | (with_reducible assumption) | assumption)
                      have q258 : x9_2 < (l2.length : Int) := of_decide_eq_true (by first | (with_reducible assumption) | assumption)
                      obtain ⟨ad258, e258, hx258_0, hx258_1⟩ := at_T35 HR2.out x9_2 p258 q258
                      cases e258
                      replace p258 := eq_true p258
                      replace q258 := eq_true q258
                      have p259 : 0 ≤ (x9_2 : Int) := of_decide_eq_true (by first | (with_reducible assumption) | assumption)
                      have q259 : x9_2 < (l2.length : Int) := of_decide_eq_true (by first | (with_reducible assumption) | assumption)
                      obtain ⟨ad259, e259, hx259_0, hx259_1⟩ := at_T35 HR2.out x9_2 p259 q259
                      obtain rfl : ad258 = ad259 := (by injection e259)
                      replace p259 := eq_true p259
                      replace q259 := eq_true q259
                      go_wp2
                      go_ret
                      exact ⟨by first | rfl | (simp; done) | (simp [*]; done), by repeat (first | exact Drawn0.refl _ | apply Drawn0.step)⟩
                · rw [if_neg c11] at H
                  exact absurd H (by simp)
              · rw [if_neg c10] at H
                have c10b0 : decide (x9_2 < (l2.length : Int)) = false := decide_eq_false c10
                clear c10
                obtain rfl := Option.some.inj H
                go_wp2
                go_ret
                exact ⟨by first | rfl | (simp; done) | (simp [*]; done), by repeat (first | exact Drawn0.refl _ | apply Drawn0.step)⟩
  · rw [if_neg c5] at H
    have c5b0 : (t255 == 0) = false := beq_eq_false_iff_ne.mpr c5
    have c5b1 : (t255 != 0) = true := bne_iff_ne.mpr c5
    obtain rfl := Option.some.inj H
    go_enter Try.func78, Try.ntmps78
    go_wp2_with (first | ((with_reducible refine gate_callee (f := 59) rfl ?_); refine goesL_ (some 12) rfl rfl Try.func59 (by kernel_rfl) rfl #[.int .i64 a0, .slice A1 l1.length c1] rfl (by (try simp only [List.map_toArray, List.map_cons, List.map_nil]); first | done | rfl | (simp only [List.length_drop, List.length_take]; rfl)) ?_; (with_reducible refine (verditerref06_Validate.calls k a0 _ _ l1 t255 _ ?side1 ?side2 A4.out).mono ?_); (case side1 => repeat (first | exact HR1.out | (with_reducible refine Kd.C_alloc ?_ _) | (with_reducible refine Kd.C_drewN ?_ _) | (with_reducible refine Kd.C_drew ?_))); (case side2 => exact HC1.out); rintro e w' ⟨rfl, ⟨nd, rfl⟩⟩; refine ⟨_, rfl, ?_⟩))
    go_ret
    exact ⟨by first | rfl | (simp; done) | (simp [*]; done), by repeat (first | exact Drawn0.refl _ | apply Drawn0.step)⟩

end Go.Proofs.Ytdbeochifofdoaa.X
end

section
-- Written by a program of this session (wip/hook.py, which runs the kit's print.py with contracts proved by hand). Not trusted: Lean checks it.
namespace Go.Proofs.Ytdbeochifofdoaa.X
open Go.RowKit Go.Proofs.YtdbeochifofdoaaW.PrintWords Go.Proofs.YtdbeochifofdoaaW.PrintLast Go.Proofs.YtdbeochifofdoaaW.PrintMore
attribute [local go_sem] max2_int min2_int max_two min_two max_three min_three max_four min_four   -- for this text's walks alone
set_option linter.unusedVariables false
set_option linter.unusedSimpArgs false

/-! ### verditerref06_Answers: function 56 -/
def verditerref06_Answers.f (k : Nat) (a0 : Int) (l1 : List (S53)) (a2_0 : Int) (a2_1 : Int) : Option (List Int × Int) := (verditerref06_cased.f k a0 l1 (([(⟨a2_0, a2_1⟩ : S35)] : List (S35)))).bind fun t385 => (if t385 = 0 then ((verditerref06_mark.f k l1 a2_0).bind fun t386 => ((verditerref06_times.f k t386 a2_1).bind fun t389 => (some (t389, 0)))) else (some (([] : List Int), t385)))
theorem verditerref06_Answers.mono : ∀ a0 a1 a2 a3 k, LeO (verditerref06_Answers.f k a0 a1 a2 a3) (verditerref06_Answers.f (k + 1) a0 a1 a2 a3) := by
  intro a0 a1 a2 a3 k
  unfold verditerref06_Answers.f
  repeat' first
      | (with_reducible exact verditerref06_cased.mono _ _ _ _)
      | (with_reducible exact verditerref06_mark.mono _ _ _)
      | (with_reducible exact verditerref06_times.mono _ _ _)
      | (with_reducible exact LeO.refl _)
      | (with_reducible exact LeO.none _)
      | (with_reducible refine LeO.ite ?_ ?_)
      | (with_reducible refine LeO.bind ?_ (fun _ => ?_))
      | exact verditerref06_cased.mono _ _ _ _
      | exact verditerref06_mark.mono _ _ _
      | exact verditerref06_times.mono _ _ _
      | exact LeO.none _
      | refine LeO.ite ?_ ?_
      | refine LeO.bind ?_ (fun _ => ?_)
def verditerref06_Answers.T4 : Bool × List (List Nat × List Nat) := (true, [([], []), ([], []), ([1], [1]), ([0, 2], [0, 2]), ([], []), ([4], [4]), ([3, 5, 3], [3, 5]), ([6, 6, 0, 1, 2, 3, 4, 5, 6], [6]), ([7, 0, 1, 2, 3, 4, 5, 6, 7], [])])
def verditerref06_Answers.B4 : List Nat := [0, 0, 2, 7, 0, 16, 63, 127, 255]
theorem verditerref06_Answers.tab4 : rtab .any (opsOf Try.f56 4) = verditerref06_Answers.T4 := by kernel_rfl
theorem verditerref06_Answers.bits4 : waitsOk verditerref06_Answers.T4.2 verditerref06_Answers.B4 = true := by kernel_rfl
set_option maxHeartbeats 8000000 in
set_option maxRecDepth 100000 in
theorem verditerref06_Answers.calls (k : Nat) (a0 : Int) (A1 : Option Addr) (c1 : Nat) (l1 : List (S53)) (a2_0 : Int) (a2_1 : Int) (r1 : List Int) (r2 : Int) (w : World) (hr1 : Kd.C k53 w A1 l1.length l1) (hc1 : l1.length ≤ c1) (h : verditerref06_Answers.f k a0 l1 a2_0 a2_1 = some (r1, r2)) :
    Calls Try.prog 56 #[.int .i64 a0, .slice A1 l1.length c1, .agg #[.int .i64 a2_0, .int .i64 a2_1]] w fun e w' => ∃ v0_ : Value, e = .returned (.tuple #[v0_, .int .i64 r2]) ∧ Kd.R (Kd.int .i64) 3 w' w.heap.size (fun _ => True) v0_ r1 ∧ Below w.heap.size w w' := by
  have hu35 := Try.underlying35
  have HR1 := Aside0.mk hr1
  have HC1 := Aside0.mk hc1
  clear hr1 hc1
  have HB := Aside0.mk (Below.refl w.heap.size w)
  have H : ((verditerref06_cased.f k a0 l1 (([(⟨a2_0, a2_1⟩ : S35)] : List (S35)))).bind fun t385 => (if t385 = 0 then ((verditerref06_mark.f k l1 a2_0).bind fun t386 => ((verditerref06_times.f k t386 a2_1).bind fun t389 => (some (t389, 0)))) else (some (([] : List Int), t385)))) = some (r1, r2) := h
  clear h
  obtain ⟨y382, hy382⟩ : ∃ y_ : List (S35), y_ = (([(⟨a2_0, a2_1⟩ : S35)] : List (S35))) := ⟨_, rfl⟩
  replace H : ((verditerref06_cased.f k a0 l1 y382).bind fun t385 => (if t385 = 0 then ((verditerref06_mark.f k l1 a2_0).bind fun t386 => ((verditerref06_times.f k t386 a2_1).bind fun t389 => (some (t389, 0)))) else (some (([] : List Int), t385)))) = some (r1, r2) := by first | (rw [hy382]; with_reducible exact H) | (have H2_ := (Option.bind_some _ _).symm.trans H; rw [hy382]; with_reducible exact H2_) | (have H2_ := (Option.bind_some _ _).symm.trans H; with_reducible exact H2_) | with_reducible exact H | (rw [hy382]; exact H) | exact H
  have Ny382 := Aside0.mk hy382
  clear hy382
  replace H := Option.bind_eq_some_iff.mp H
  obtain ⟨t385, A40, H⟩ := H
  replace H : (if t385 = 0 then ((verditerref06_mark.f k l1 a2_0).bind fun t386 => ((verditerref06_times.f k t386 a2_1).bind fun t389 => (some (t389, 0)))) else (some (([] : List Int), t385))) = some (r1, r2) := H
  have A4 := Aside0.mk A40
  clear A40
  by_cases c5 : t385 = 0
  · rw [if_pos c5] at H
    have c5b0 : (t385 == 0) = true := beq_iff_eq.mpr c5
    have c5b1 : (t385 != 0) = false := bne_eq_false_iff_eq.mpr c5
    clear c5
    replace H := Option.bind_eq_some_iff.mp H
    obtain ⟨t386, A60, H⟩ := H
    replace H : ((verditerref06_times.f k t386 a2_1).bind fun t389 => (some (t389, 0))) = some (r1, r2) := H
    have A6 := Aside0.mk A60
    clear A60
    replace H := Option.bind_eq_some_iff.mp H
    obtain ⟨t389, A70, H⟩ := H
    replace H : (some (t389, 0)) = some (r1, r2) := H
    have A7 := Aside0.mk A70
    clear A70
    simp only [Option.some.injEq, Prod.mk.injEq] at H
    obtain ⟨rfl, rfl⟩ := H
    go_enter Try.func56, Try.ntmps56
    try go_wp2_with (first | ((with_reducible refine gate_dst (N := 5) rfl ?_); refine box_event ?hg (N := 5) ?hd (cs := #[.int .i64 a2_0, .int .i64 a2_1]) (t := 35) ?hr ?_; (case hd => rfl); (case hg => rfl); (case hr => first | (go_simp; done) | (go_simp; rfl)); intro gb381 hg w8 hbox hb; have n0_ := Aside0.mk (below_step (by repeat (first | (with_reducible first | exact HB.out | apply below_alloc | apply pw_below_drewN | apply below_drew1) | exact HB.out)) hb); have n1_ := Aside0.mk (hbox); have n2_ := Aside0.mk ((by rw [hg]; exact (below_size (by repeat (first | (with_reducible first | exact HB.out | apply below_alloc | apply pw_below_drewN | apply below_drew1) | exact HB.out))) : w.heap.size ≤ gb381)); have n3_ := Aside0.mk ((by rw [hg]; exact (below_size (by repeat (first | (with_reducible first | exact HB.out | apply below_alloc | apply pw_below_drewN | apply below_drew1) | exact HB.out))) : w.heap.size ≤ gb381)); clear HB; have HB := n0_; have BK381 := n1_; have GW381 := n2_; have GE381 := n3_; clear n0_ n1_ n2_ n3_; clear hb hbox hg; have hcz9_0 : w8.cell? ⟨gb381, 0, none⟩ = some (.int .i64 a2_0) := (blk_cell BK381.out 0).trans rfl; have hcz9_1 : w8.cell? ⟨gb381, 1, none⟩ = some (.int .i64 a2_1) := (blk_cell BK381.out 1).trans rfl; have hfz9_0 := blk_frozen BK381.out 0; have hfz9_1 := blk_frozen BK381.out 1) | ((with_reducible refine gate_dst (N := 12) rfl ?_); refine Kd.R_lit k35 _ 35 ?hg (N := 12) ?hd (xs := ([(⟨a2_0, a2_1⟩ : S35)] : List (S35))) (inner := [.int .i64 a2_0, .int .i64 a2_1]) (ok := fun _ => True) (okp := fun _ => True) ?hr ?hp (fun _ hk => hk) trivial (Below.refl _ _) (Nat.le_refl _) (by simp) ?_; (case hd => rfl); (case hg => rfl); (case hr => first | (go_simp; done) | (go_simp; rfl)); (case hp => exact (Reps.c2 (show Kd.M k35 _ _ _ (⟨a2_0, a2_1⟩ : S35) [.int .i64 a2_0, .int .i64 a2_1] from (k35_mkM _ _ _ (⟨a2_0, a2_1⟩ : S35) )) (Reps.none _ _))); intro v383 w10 ho11 hb hg_ hnew_; clear hg_ hnew_; (first | rw [← Ny382.out] at ho11 | (simp only [Int.reduceToNat] at ho11; rw [← Ny382.out] at ho11)); have n0_ := Aside0.mk (Kd.R_lower (Kd.R_newB ho11 (g := gb381) (o := .cells #[.int .i64 a2_0, .int .i64 a2_1] 35 (0, 0)) (by (with_reducible repeat (first | refine blk_drewN ?_ _ | refine blk_drew ?_ | refine blk_alloc ?_ _)); exact BK381.out)) (below_size (by repeat (first | (with_reducible first | exact HB.out | apply below_alloc | apply pw_below_drewN | apply below_drew1 | refine below_set ?_ GE381.out) | exact HB.out)))); have n1_ := Aside0.mk (blk_below (g := gb381) (o := .cells #[.int .i64 a2_0, .int .i64 a2_1] 35 (0, 0)) (by (with_reducible repeat (first | refine blk_drewN ?_ _ | refine blk_drew ?_ | refine blk_alloc ?_ _)); exact BK381.out) hb); have n2_ := Aside0.mk (below_step (by repeat (first | (with_reducible first | exact HB.out | apply below_alloc | apply pw_below_drewN | apply below_drew1 | refine below_set ?_ GE381.out) | exact HB.out)) hb); clear BK381; clear HB; have HO384 := n0_; have BK381 := n1_; have HB := n2_; clear n0_ n1_ n2_; clear hb ho11; obtain ⟨Ao12, co12, eo12⟩ := Kd.R_slice HO384.out; subst eo12) | ((with_reducible refine gate_callee (f := 78) rfl ?_); refine goesL_ (some 13) rfl rfl Try.func78 (by kernel_rfl) rfl #[.int .i64 a0, .slice A1 l1.length c1, .slice Ao12 y382.length co12] rfl (by (try simp only [List.map_toArray, List.map_cons, List.map_nil]); first | done | rfl | (simp only [List.length_drop, List.length_take]; rfl)) ?_; (with_reducible refine (verditerref06_cased.calls k a0 _ _ l1 _ _ y382 t385 _ ?side1 ?side2 ?side3 ?side4 A4.out).mono ?_); (case side1 => repeat (first | exact (Kd.C_below HR1.out HB.out) | (with_reducible refine Kd.C_alloc ?_ _) | (with_reducible refine Kd.C_drewN ?_ _) | (with_reducible refine Kd.C_drew ?_))); (case side2 => exact HC1.out); (case side3 => repeat (first | exact (Kd.R_reads' HO384.out).2.2 | (with_reducible refine Kd.C_alloc ?_ _) | (with_reducible refine Kd.C_drewN ?_ _) | (with_reducible refine Kd.C_drew ?_))); (case side4 => exact (Kd.R_reads' HO384.out).2.1); rintro e w' ⟨rfl, ⟨nd, rfl⟩⟩; refine ⟨_, rfl, ?_⟩))
    (try (rw [drewN_self w10]; generalize hq_ : World.drewN w10 _ = w10; have n0_ : Aside0 (Kd.R k35 35 w10 w.heap.size (fun k_ => k_ ≠ gb381) (.slice Ao12 y382.length co12) y382) := ⟨by rw [← hq_]; exact (by (with_reducible repeat (first | apply Kd.R_alloc | apply Kd.R_drewN | apply Kd.R_drew)); exact Kd.R_mono HO384.out (fun _ hk => hk.2))⟩; have n1_ : Aside0 (w10.heap[gb381]? = some (.cells #[.int .i64 a2_0, .int .i64 a2_1] 35 (0, 0))) := ⟨by rw [← hq_]; exact (by (with_reducible repeat (first | refine blk_drewN ?_ _ | refine blk_drew ?_ | refine blk_alloc ?_ _)); exact BK381.out)⟩; have n2_ : Aside0 (Below w.heap.size w w10) := ⟨by rw [← hq_]; exact (by repeat (first | (with_reducible first | exact HB.out | apply below_alloc | apply pw_below_drewN | apply below_drew1 | refine below_set ?_ GE381.out) | exact HB.out))⟩; clear HO384 BK381 HB hq_; have HO384 := n0_; have BK381 := n1_; have HB := n2_; clear n0_ n1_ n2_))
    have n0_ := Aside0.mk (Kd.R_drew HO384.out)
    have n1_ := Aside0.mk (blk_drew BK381.out)
    have n2_ := Aside0.mk (below_drew1 HB.out)
    clear HO384
    clear BK381
    clear HB
    have HO384 := n0_
    have BK381 := n1_
    have HB := n2_
    clear n0_ n1_ n2_
    refine start_ (n := 9) (S := fun w' => w'.cell? ⟨gb381, 0, none⟩ = some (.int .i64 a2_0) ∧ w'.cell? ⟨gb381, 1, none⟩ = some (.int .i64 a2_1)) (ds := []) #[false, false, false, false, false, false, false, false, false] (by kernel_rfl) rfl rfl ⟨(blk_cell BK381.out 0).trans rfl, (blk_cell BK381.out 1).trans rfl⟩ (fun hHeld => ?_); refine with_tabW verditerref06_Answers.tab4 verditerref06_Answers.bits4 (fun HT_ HW_ => ?_)
    generalize w10.drew = w13 at HO384 BK381 HB hHeld ⊢
    refine pure_ (i := 0) (N := some 17) (v := ?_) (a' := ?_) #[true, false, false, false, false, false, false, false, false] rfl rfl (any_of HT_.out (by kernel_rfl)) (fun _ _ _ h => h) (Or.inl ⟨by rfl, ?_⟩) ?_ ?_
    rotate_left
    · intro w'
      go_simp
      with_reducible rfl
    rotate_left
    · simp only [Act.put, List.setIfInBounds_toArray, List.set_cons_zero, List.set_cons_succ, i64_w, i32_w]
      rfl
    refine pure_ (i := 1) (N := some 18) (v := ?_) (a' := ?_) #[true, true, false, false, false, false, false, false, false] rfl rfl (any_of HT_.out (by kernel_rfl)) (fun _ _ _ h => h) (Or.inl ⟨by rfl, ?_⟩) ?_ ?_
    rotate_left
    · intro w'
      go_simp
      with_reducible rfl
    rotate_left
    · simp only [Act.put, List.setIfInBounds_toArray, List.set_cons_zero, List.set_cons_succ, i64_w, i32_w]
      rfl
    refine pure_ (i := 4) (N := some 21) (v := ?_) (a' := ?_) #[true, true, false, false, true, false, false, false, false] rfl rfl (any_of HT_.out (by kernel_rfl)) (fun _ _ _ h => h) (Or.inl ⟨by rfl, ?_⟩) ?_ ?_
    rotate_left
    · intro w'
      go_simp
      with_reducible rfl
    rotate_left
    · simp only [Act.put, List.setIfInBounds_toArray, List.set_cons_zero, List.set_cons_succ, i64_w, i32_w]
      rfl
    refine take_ (i := 2) (N := some 19) (v := ?_) (a' := ?_) #[true, true, true, false, true, false, false, false, false] rfl rfl (take_ofW HT_.out HW_.out (by kernel_rfl)) (fun _ _ _ h => h) (Or.inl ⟨by rfl, ?_⟩) hHeld ?_ ?_
    rotate_left
    · rintro w' ⟨s0, s1⟩
      go_simp
      with_reducible rfl
    rotate_left
    · simp only [Act.put, List.setIfInBounds_toArray, List.set_cons_zero, List.set_cons_succ, i64_w, i32_w]
      rfl
    refine take_ (i := 5) (N := some 22) (v := ?_) (a' := ?_) #[true, true, true, false, true, true, false, false, false] rfl rfl (take_ofW HT_.out HW_.out (by kernel_rfl)) (fun _ _ _ h => h) (Or.inl ⟨by rfl, ?_⟩) hHeld ?_ ?_
    rotate_left
    · rintro w' ⟨s0, s1⟩
      go_simp
      with_reducible rfl
    rotate_left
    · simp only [Act.put, List.setIfInBounds_toArray, List.set_cons_zero, List.set_cons_succ, i64_w, i32_w]
      rfl
    refine one_ (i := 3) (N := some 20) #[true, true, true, true, true, true, false, false, false] rfl rfl (one_of HT_.out (by kernel_rfl)) (by decide) (fun K hK => ?_)
    refine goes_ Try.func80 (by kernel_rfl) rfl #[.slice A1 l1.length c1, .int .i64 a2_0] (by rfl) rfl rfl (by (try simp only [List.map_toArray, List.map_cons, List.map_nil]); first | done | rfl | (simp only [List.length_drop, List.length_take]; rfl)) ?_
    with_reducible refine (verditerref06_mark.calls k _ _ l1 a2_0 t386 _ ?side1 ?side2 A6.out).mono ?_
    (case side1 => repeat (first | exact (Kd.C_below HR1.out HB.out) | (with_reducible refine Kd.C_alloc ?_ _) | (with_reducible refine Kd.C_drewN ?_ _) | (with_reducible refine Kd.C_drew ?_)))
    (case side2 => exact HC1.out)
    rintro e w14 ⟨v387, rfl, ho0, hb⟩
    refine ⟨_, rfl, ?_⟩
    have n0_ := Aside0.mk (Kd.R_below (by (with_reducible repeat (first | apply Kd.R_alloc | apply Kd.R_drewN | apply Kd.R_drew)); exact HO384.out) hb)
    have n1_ := Aside0.mk (Kd.R_lower ho0 (below_size (by repeat (first | (with_reducible first | exact HB.out | apply below_alloc | apply pw_below_drewN | apply below_drew1 | refine below_set ?_ GE381.out) | exact HB.out))))
    have n2_ := Aside0.mk (blk_below (g := gb381) (o := .cells #[.int .i64 a2_0, .int .i64 a2_1] 35 (0, 0)) (by (with_reducible repeat (first | refine blk_drewN ?_ _ | refine blk_drew ?_ | refine blk_alloc ?_ _)); exact BK381.out) hb)
    have n3_ := Aside0.mk (below_step (by repeat (first | (with_reducible first | exact HB.out | apply below_alloc | apply pw_below_drewN | apply below_drew1 | refine below_set ?_ GE381.out) | exact HB.out)) hb)
    clear HO384
    clear BK381
    clear HB
    have HO384 := n0_
    have HO388 := n1_
    have BK381 := n2_
    have HB := n3_
    clear n0_ n1_ n2_ n3_
    (try clear hb)
    (try clear hb2)
    (try clear hk)
    (try clear hi)
    (try clear ho0)
    obtain ⟨Ao15, co15, eo15⟩ := Kd.R_slice HO388.out
    (first | subst eo15 | (injection eo15 with f1_ f2_ f3_; have f4_ := f1_.symm; have f5_ := f3_.symm; clear f1_ f2_ f3_; subst f4_; subst f5_))
    refine hK.out _ _ ⟨(blk_cell BK381.out 0).trans rfl, (blk_cell BK381.out 1).trans rfl⟩ (fun hHeld => ?_)
    clear hK K
    refine norm_ (a' := ?_) ?_ ?_
    rotate_left
    · show Act.put _ (some 20) _ = _
      simp only [Act.put, List.setIfInBounds_toArray, List.set_cons_zero, List.set_cons_succ, i64_w, i32_w]
      rfl
    refine one_ (i := 6) (N := some 23) #[true, true, true, true, true, true, true, false, false] rfl rfl (one_of HT_.out (by kernel_rfl)) (by decide) (fun K hK => ?_)
    refine goes_ Try.func79 (by kernel_rfl) rfl #[.slice Ao15 t386.length co15, .int .i64 a2_1] (by rfl) rfl rfl (by (try simp only [List.map_toArray, List.map_cons, List.map_nil]); first | done | rfl | (simp only [List.length_drop, List.length_take]; rfl)) ?_
    with_reducible refine (verditerref06_times.calls k _ _ t386 a2_1 t389 _ ?side1 ?side2 A7.out).mono ?_
    (case side1 => repeat (first | exact (Kd.R_reads' HO388.out).2.2 | (with_reducible refine Kd.C_alloc ?_ _) | (with_reducible refine Kd.C_drewN ?_ _) | (with_reducible refine Kd.C_drew ?_)))
    (case side2 => exact (Kd.R_reads' HO388.out).2.1)
    rintro e w16 ⟨v390, rfl, ho0, hb⟩
    refine ⟨_, rfl, ?_⟩
    have n0_ := Aside0.mk (Kd.R_below (by (with_reducible repeat (first | apply Kd.R_alloc | apply Kd.R_drewN | apply Kd.R_drew)); exact HO384.out) hb)
    have n1_ := Aside0.mk (Kd.R_elder' (by (with_reducible repeat (first | apply Kd.R_alloc | apply Kd.R_drewN | apply Kd.R_drew)); exact HO388.out) (Kd.R_base ho0) hb)
    have n2_ := Aside0.mk (Kd.R_lower (Kd.R_new' ho0 (Kd.R_lt (by (with_reducible repeat (first | apply Kd.R_alloc | apply Kd.R_drewN | apply Kd.R_drew)); exact HO388.out))) (below_size (by repeat (first | (with_reducible first | exact HB.out | apply below_alloc | apply pw_below_drewN | apply below_drew1 | refine below_set ?_ GE381.out) | exact HB.out))))
    have n3_ := Aside0.mk (blk_below (g := gb381) (o := .cells #[.int .i64 a2_0, .int .i64 a2_1] 35 (0, 0)) (by (with_reducible repeat (first | refine blk_drewN ?_ _ | refine blk_drew ?_ | refine blk_alloc ?_ _)); exact BK381.out) hb)
    have n4_ := Aside0.mk (below_step (by repeat (first | (with_reducible first | exact HB.out | apply below_alloc | apply pw_below_drewN | apply below_drew1 | refine below_set ?_ GE381.out) | exact HB.out)) hb)
    clear HO384
    clear HO388
    clear BK381
    clear HB
    have HO384 := n0_
    have HO388 := n1_
    have HO391 := n2_
    have BK381 := n3_
    have HB := n4_
    clear n0_ n1_ n2_ n3_ n4_
    (try clear hb)
    (try clear hb2)
    (try clear hk)
    (try clear hi)
    (try clear ho0)
    refine hK.out _ _ ⟨(blk_cell BK381.out 0).trans rfl, (blk_cell BK381.out 1).trans rfl⟩ (fun hHeld => ?_)
    clear hK K
    refine norm_ (a' := ?_) ?_ ?_
    rotate_left
    · show Act.put _ (some 23) _ = _
      simp only [Act.put, List.setIfInBounds_toArray, List.set_cons_zero, List.set_cons_succ, i64_w, i32_w]
      rfl
    refine pure_ (i := 7) (N := some 6) (v := ?_) (a' := ?_) #[true, true, true, true, true, true, true, true, false] rfl rfl (any_of HT_.out (by kernel_rfl)) (fun _ _ _ h => h) (Or.inl ⟨by rfl, ?_⟩) ?_ ?_
    rotate_left
    · intro w'
      go_simp
      with_reducible rfl
    rotate_left
    · simp only [Act.put, List.setIfInBounds_toArray, List.set_cons_zero, List.set_cons_succ, i64_w, i32_w]
      rfl
    refine pure_ (i := 8) (N := some 7) (v := ?_) (a' := ?_) #[true, true, true, true, true, true, true, true, true] rfl rfl (any_of HT_.out (by kernel_rfl)) (fun _ _ _ h => h) (Or.inl ⟨by rfl, ?_⟩) ?_ ?_
    rotate_left
    · intro w'
      go_simp
      with_reducible rfl
    rotate_left
    · simp only [Act.put, List.setIfInBounds_toArray, List.set_cons_zero, List.set_cons_succ, i64_w, i32_w]
      rfl
    refine done_ (done_of HT_.out (by kernel_rfl)) ?_
    try go_wp2
    go_ret2
    exact ⟨_, by first | rfl | (simp [errW_none, errW_some] <;> rfl) | (simp [*, errW_none, errW_some] <;> rfl), by (with_reducible repeat (first | apply Kd.R_alloc | apply Kd.R_drewN | apply Kd.R_drew)); exact Kd.R_mono HO391.out (fun _ hk => trivial), by repeat (first | (with_reducible first | exact HB.out | apply below_alloc | apply pw_below_drewN | apply below_drew1 | refine below_set ?_ GE381.out) | exact HB.out)⟩
  · rw [if_neg c5] at H
    have c5b0 : (t385 == 0) = false := beq_eq_false_iff_ne.mpr c5
    have c5b1 : (t385 != 0) = true := bne_iff_ne.mpr c5
    simp only [Option.some.injEq, Prod.mk.injEq] at H
    obtain ⟨rfl, rfl⟩ := H
    go_enter Try.func56, Try.ntmps56
    go_wp2_with (first | ((with_reducible refine gate_dst (N := 5) rfl ?_); refine box_event ?hg (N := 5) ?hd (cs := #[.int .i64 a2_0, .int .i64 a2_1]) (t := 35) ?hr ?_; (case hd => rfl); (case hg => rfl); (case hr => first | (go_simp; done) | (go_simp; rfl)); intro gb381 hg w17 hbox hb; have n0_ := Aside0.mk (below_step (by repeat (first | (with_reducible first | exact HB.out | apply below_alloc | apply pw_below_drewN | apply below_drew1) | exact HB.out)) hb); have n1_ := Aside0.mk (hbox); have n2_ := Aside0.mk ((by rw [hg]; exact (below_size (by repeat (first | (with_reducible first | exact HB.out | apply below_alloc | apply pw_below_drewN | apply below_drew1) | exact HB.out))) : w.heap.size ≤ gb381)); have n3_ := Aside0.mk ((by rw [hg]; exact (below_size (by repeat (first | (with_reducible first | exact HB.out | apply below_alloc | apply pw_below_drewN | apply below_drew1) | exact HB.out))) : w.heap.size ≤ gb381)); clear HB; have HB := n0_; have BK381 := n1_; have GW381 := n2_; have GE381 := n3_; clear n0_ n1_ n2_ n3_; clear hb hbox hg; have hcz18_0 : w17.cell? ⟨gb381, 0, none⟩ = some (.int .i64 a2_0) := (blk_cell BK381.out 0).trans rfl; have hcz18_1 : w17.cell? ⟨gb381, 1, none⟩ = some (.int .i64 a2_1) := (blk_cell BK381.out 1).trans rfl; have hfz18_0 := blk_frozen BK381.out 0; have hfz18_1 := blk_frozen BK381.out 1) | ((with_reducible refine gate_dst (N := 12) rfl ?_); refine Kd.R_lit k35 _ 35 ?hg (N := 12) ?hd (xs := ([(⟨a2_0, a2_1⟩ : S35)] : List (S35))) (inner := [.int .i64 a2_0, .int .i64 a2_1]) (ok := fun _ => True) (okp := fun _ => True) ?hr ?hp (fun _ hk => hk) trivial (Below.refl _ _) (Nat.le_refl _) (by simp) ?_; (case hd => rfl); (case hg => rfl); (case hr => first | (go_simp; done) | (go_simp; rfl)); (case hp => exact (Reps.c2 (show Kd.M k35 _ _ _ (⟨a2_0, a2_1⟩ : S35) [.int .i64 a2_0, .int .i64 a2_1] from (k35_mkM _ _ _ (⟨a2_0, a2_1⟩ : S35) )) (Reps.none _ _))); intro v383 w19 ho20 hb hg_ hnew_; clear hg_ hnew_; (first | rw [← Ny382.out] at ho20 | (simp only [Int.reduceToNat] at ho20; rw [← Ny382.out] at ho20)); have n0_ := Aside0.mk (Kd.R_lower (Kd.R_newB ho20 (g := gb381) (o := .cells #[.int .i64 a2_0, .int .i64 a2_1] 35 (0, 0)) (by (with_reducible repeat (first | refine blk_drewN ?_ _ | refine blk_drew ?_ | refine blk_alloc ?_ _)); exact BK381.out)) (below_size (by repeat (first | (with_reducible first | exact HB.out | apply below_alloc | apply pw_below_drewN | apply below_drew1 | refine below_set ?_ GE381.out) | exact HB.out)))); have n1_ := Aside0.mk (blk_below (g := gb381) (o := .cells #[.int .i64 a2_0, .int .i64 a2_1] 35 (0, 0)) (by (with_reducible repeat (first | refine blk_drewN ?_ _ | refine blk_drew ?_ | refine blk_alloc ?_ _)); exact BK381.out) hb); have n2_ := Aside0.mk (below_step (by repeat (first | (with_reducible first | exact HB.out | apply below_alloc | apply pw_below_drewN | apply below_drew1 | refine below_set ?_ GE381.out) | exact HB.out)) hb); clear BK381; clear HB; have HO384 := n0_; have BK381 := n1_; have HB := n2_; clear n0_ n1_ n2_; clear hb ho20; obtain ⟨Ao21, co21, eo21⟩ := Kd.R_slice HO384.out; subst eo21) | ((with_reducible refine gate_callee (f := 78) rfl ?_); refine goesL_ (some 13) rfl rfl Try.func78 (by kernel_rfl) rfl #[.int .i64 a0, .slice A1 l1.length c1, .slice Ao21 y382.length co21] rfl (by (try simp only [List.map_toArray, List.map_cons, List.map_nil]); first | done | rfl | (simp only [List.length_drop, List.length_take]; rfl)) ?_; (with_reducible refine (verditerref06_cased.calls k a0 _ _ l1 _ _ y382 t385 _ ?side1 ?side2 ?side3 ?side4 A4.out).mono ?_); (case side1 => repeat (first | exact (Kd.C_below HR1.out HB.out) | (with_reducible refine Kd.C_alloc ?_ _) | (with_reducible refine Kd.C_drewN ?_ _) | (with_reducible refine Kd.C_drew ?_))); (case side2 => exact HC1.out); (case side3 => repeat (first | exact (Kd.R_reads' HO384.out).2.2 | (with_reducible refine Kd.C_alloc ?_ _) | (with_reducible refine Kd.C_drewN ?_ _) | (with_reducible refine Kd.C_drew ?_))); (case side4 => exact (Kd.R_reads' HO384.out).2.1); rintro e w' ⟨rfl, ⟨nd, rfl⟩⟩; refine ⟨_, rfl, ?_⟩))
    go_ret2
    exact ⟨_, by first | rfl | (simp [errW_none, errW_some] <;> rfl) | (simp [*, errW_none, errW_some] <;> rfl), by first | exact Kd.R_nil _ _ _ _ _ | exact Kd.N_nil _ _ _ _ _ | exact Kd.V_nil _ _ _ _ _ | exact Kd.Q_nil _ _ _ _ _ | exact Kd.S_nil _ _ _ _ _, by repeat (first | (with_reducible first | exact HB.out | apply below_alloc | apply pw_below_drewN | apply below_drew1 | refine below_set ?_ GE381.out) | exact HB.out)⟩

end Go.Proofs.Ytdbeochifofdoaa.X
end

section
namespace Go.Proofs.Ytdbeochifofdoaa.X
open Go.RowKit Go.Proofs.YtdbeochifofdoaaW.PrintWords Go.Proofs.YtdbeochifofdoaaW.PrintLast Go.Proofs.YtdbeochifofdoaaW.PrintMore

set_option maxHeartbeats 2000000 in
set_option maxRecDepth 100000 in
theorem indexFunc124 (g : Nat) (lb : Array Value) (eg : ∀ args w, (callFunc g args).run Try.prog w = .ok (.enter g args) w) (p : S35 → Bool) (A0 : Option Addr) (c0 : Nat) (l0 : List (S35)) (w : World)
    (hr0 : Kd.C k35 w A0 l0.length l0) (hp : ∀ (W : World) (x : S35), x ∈ l0 → Below w.heap.size w W → Calls Try.prog g (#[.agg #[.int .i64 x.f0, .int .i64 x.f1]] ++ lb) W fun e w' => e = .returned (.bool (p x)) ∧ Below W.heap.size W w') :
    Calls Try.prog 124 #[.slice A0 l0.length c0, .func (.func g) #[] lb] w fun e w' => e = .returned (.int .i64 (ixf p l0 0)) ∧ Below w.heap.size w w' := by
  have HR := Aside0.mk hr0
  have HP := Aside0.mk hp
  have HM := Aside0.mk (Kd.C_max hr0)
  clear hr0 hp
  have hlen : l0.length ≤ 9223372036854775807 := HM.out
  go_enter Try.func124, Try.ntmps124
  go_wp2
  go_loopg [5, 8] l0.length (fun gg _ s8 wr => ∃ kk : Nat, kk ≤ l0.length ∧ l0.length - kk ≤ gg ∧ s8 = .int .i64 kk ∧ Aside0 (Below w.heap.size w wr) ∧ Aside0 (ixf p (l0.drop kk) kk = ixf p l0 0))
  case atStart => exact ⟨0, Nat.zero_le _, by omega, rfl, ⟨Below.refl _ w⟩, ⟨by simp⟩⟩
  case round =>
    obtain ⟨kk, hkk, hg, rfl, BW, A⟩ := hrel
    by_cases hlt : kk < l0.length
    · have hltz : (kk : Int) < (l0.length : Int) := by omega
      obtain ⟨ad, e1, hcell, hcell1⟩ := at_T35 HR.out kk (by omega) hltz
      cases e1
      have hmem : rd_T35 l0 kk ∈ l0 := by simp [rd_T35, List.getD_eq_getElem?_getD, List.getElem?_eq_getElem hlt]
      have hcall := HP.out wr (rd_T35 l0 kk) hmem BW.out
      rw [show rd_T35 l0 (kk : Int) = l0.getD kk z35 from rfl] at hcall hcell hcell1
      replace hcell := (BW.out.cell (World.block_lt_of_cell? w _ hcell)).trans hcell
      replace hcell1 := (BW.out.cell (World.block_lt_of_cell? w _ hcell1)).trans hcell1
      simp only [Int.toNat_natCast] at hcell hcell1
      clear hmem
      generalize hy : (l0.getD kk z35) = y at *
      have B : Aside0 (l0.drop kk = y :: l0.drop (kk + 1)) := ⟨by rw [← hy]; exact drop_getD _ l0 kk hlt⟩
      clear hy
      cases hq : p y with
      | true =>
        rw [hq] at hcall
        have Q := Aside0.mk hq
        clear hq
        go_wp2_with (go_at_fn g; refine hcall.mono ?_; rintro e w' ⟨rfl, hb'⟩)
        go_ret
        refine ⟨?_, BW.out.trans (hb'.mono BW.out.size)⟩
        rw [← A.out, B.out, ixf, if_pos Q.out]
        rfl
      | false =>
        rw [hq] at hcall
        have Q := Aside0.mk hq
        clear hq
        go_wp2_with (go_at_fn g; refine hcall.mono ?_; rintro e w' ⟨rfl, hb'⟩)
        go_roundg (l0.length - (kk + 1))
        case measure => omega
        case rel =>
          refine ⟨kk + 1, by omega, by omega, by go_num, ⟨BW.out.trans (hb'.mono BW.out.size)⟩, ⟨?_⟩⟩
          rw [← A.out, B.out, ixf, if_neg (by rw [Q.out]; simp)]
          rfl
    · have hltz : ¬ (kk : Int) < (l0.length : Int) := by omega
      have hkl : l0.length ≤ kk := by omega
      go_wp2
      go_ret
      refine ⟨?_, BW.out⟩
      rw [← A.out, List.drop_eq_nil_of_le hkl]
      rfl
set_option maxHeartbeats 1000000 in
theorem containsFunc114 (g : Nat) (lb : Array Value) (eg : ∀ args w, (callFunc g args).run Try.prog w = .ok (.enter g args) w) (p : S35 → Bool) (A0 : Option Addr) (c0 : Nat) (l0 : List (S35)) (w : World)
    (hr0 : Kd.C k35 w A0 l0.length l0) (hp : ∀ (W : World) (x : S35), x ∈ l0 → Below w.heap.size w W → Calls Try.prog g (#[.agg #[.int .i64 x.f0, .int .i64 x.f1]] ++ lb) W fun e w' => e = .returned (.bool (p x)) ∧ Below W.heap.size W w') :
    Calls Try.prog 114 #[.slice A0 l0.length c0, .func (.func g) #[] lb] w fun e w' => e = .returned (.bool (l0.any p)) ∧ Below w.heap.size w w' := by
  rw [← ixf_any p l0 0 (by omega)]
  have HR := Aside0.mk hr0
  have HP := Aside0.mk hp
  clear hr0 hp
  go_enter Try.func114, Try.ntmps114
  go_wp2_with (go_at_call 124; refine (indexFunc124 g lb eg p A0 c0 l0 _ HR.out HP.out).mono ?_; rintro e w' ⟨rfl, hb'⟩)
  go_ret
  exact ⟨rfl, hb'⟩
end Go.Proofs.Ytdbeochifofdoaa.X
end

section
/-! weigh.cased. -/
namespace Go.Proofs.Ytdbeochifofdoaa.X
open Go.RowKit Go.Proofs.YtdbeochifofdoaaW.PrintWords Go.Proofs.YtdbeochifofdoaaW.PrintLast Go.Proofs.YtdbeochifofdoaaW.PrintMore
set_option linter.unusedVariables false
set_option linter.unusedSimpArgs false

/-- The error of lots, a plan and cases. -/
def cErr (lots : Int) (l : List S53) (cs : List S35) : Int :=
  if pErr lots l = 0 then (if cs.any (fun x => !(decide (0 ≤ x.f0) && decide (x.f0 ≤ lots - 1))) = true then 4 else if cs.any (fun x => x.f1 != 1 && x.f1 != -1) = true then 1 else 0) else pErr lots l
def weigh_cased.f (a0 : Int) (l1 : List S53) (l2 : List S35) : Option Int := some (cErr a0 l1 l2)

theorem eg115 (args : Array Value) (w : World) : (callFunc 115 args).run Try.prog w = .ok (.enter 115 args) w := enters_of Try.func115 (by kernel_rfl) rfl args w
theorem eg116 (args : Array Value) (w : World) : (callFunc 116 args).run Try.prog w = .ok (.enter 116 args) w := enters_of Try.func116 (by kernel_rfl) rfl args w

set_option maxHeartbeats 4000000 in
set_option maxRecDepth 100000 in
theorem weigh_cased.calls (a0 : Int) (A1 : Option Addr) (c1 : Nat) (l1 : List S53) (A2 : Option Addr) (c2 : Nat) (l2 : List S35) (r : Int) (w : World) (hr1 : Kd.C k53 w A1 l1.length l1) (hc1 : l1.length ≤ c1) (hr2 : Kd.C k35 w A2 l2.length l2) (hc2 : l2.length ≤ c2) (h : weigh_cased.f a0 l1 l2 = some r) :
    Calls Try.prog 95 #[.int .i64 a0, .slice A1 l1.length c1, .slice A2 l2.length c2] w fun e w' => e = .returned (.int .i64 r) ∧ Below w.heap.size w w' := by
  obtain rfl := Option.some.inj h
  have HR1 := Aside0.mk hr1
  have HR2 := Aside0.mk hr2
  have HC1 := Aside0.mk hc1
  clear h hr1 hr2 hc1 hc2
  by_cases hp : pErr a0 l1 = 0
  rotate_left
  · have e1 : cErr a0 l1 l2 = pErr a0 l1 := by unfold cErr; rw [if_neg hp]
    rw [e1]
    have hf : weigh_Validate.f a0 l1 = some (pErr a0 l1) := rfl
    clear e1
    generalize pErr a0 l1 = p at *
    have HF := Aside0.mk hf
    have q1 : (p != 0) = true := by simpa using hp
    clear hf hp
    go_enter Try.func95, Try.ntmps95
    go_wp2_with (go_at_call 58; refine (weigh_Validate.calls a0 A1 c1 l1 p _ (Kd.C_alloc HR1.out _) HC1.out HF.out).mono ?_; rintro e w' ⟨rfl, hb⟩)
    go_ret
    exact ⟨rfl, (below_alloc (Below.refl _ _) _).trans (hb.mono (by simp))⟩
  have OK := Aside0.mk (pErr_ok hp)
  have hf : weigh_Validate.f a0 l1 = some 0 := by rw [weigh_Validate.f, hp]
  have e1 : cErr a0 l1 l2 = if l2.any (fun x => !(decide (0 ≤ x.f0) && decide (x.f0 ≤ a0 - 1))) = true then 4 else if l2.any (fun x => x.f1 != 1 && x.f1 != -1) = true then 1 else 0 := by unfold cErr; rw [if_pos hp]
  rw [e1]
  obtain ⟨q, hq⟩ : ∃ q : Int, q = if l2.any (fun x => !(decide (0 ≤ x.f0) && decide (x.f0 ≤ a0 - 1))) = true then 4 else if l2.any (fun x => x.f1 != 1 && x.f1 != -1) = true then 1 else 0 := ⟨_, rfl⟩
  rw [← hq]
  have HQ := Aside0.mk hq
  have HF := Aside0.mk hf
  clear e1 hf hp hq
  have hlo : 1 ≤ a0 := OK.out.lo
  have hhi : a0 ≤ 13 := OK.out.hi
  go_enter Try.func95, Try.ntmps95
  go_wp2_with fail
  refine (weigh_Validate.calls a0 A1 c1 l1 0 _ (Kd.C_alloc HR1.out _) HC1.out HF.out).mono ?_; rintro e w1 ⟨rfl, hb⟩
  have hbx := hb.cell (p := ⟨w.heap.size, 0, none⟩) (by simp)
  have hx : w1.cell? ⟨w.heap.size, 0, none⟩ = some (.int .i64 a0) := hbx.trans (blk_cell (blk_new w _) 0)
  have hsz : w.heap.size < w1.heap.size := by have := hb.size; simp at this; omega
  have HB := Aside0.mk ((below_alloc (Below.refl _ w) (.cells #[.int .i64 a0] 3)).trans (hb.mono (by simp)))
  clear hb hbx
  go_wp2_with fail
  refine (containsFunc114 115 #[.pointer (some ⟨w.heap.size, 0, none⟩)] eg115 (fun x => !(decide (0 ≤ x.f0) && decide (x.f0 ≤ a0 - 1))) A2 c2 l2 _ ?hr ?hp).mono ?_
  case hr => exact Kd.C_below HR2.out HB.out
  case hp =>
    intro W x _ hbW
    exact lit115 x a0 (by omega) (by omega) w.heap.size W (by have := hbW.size; omega) ((hbW.cell (p := ⟨w.heap.size, 0, none⟩) hsz).trans hx)
  rintro e w2 ⟨rfl, hb2⟩
  have HB2 := Aside0.mk (HB.out.trans (hb2.mono HB.out.size))
  clear hx hsz HB hb2
  cases h1 : l2.any (fun x => !(decide (0 ≤ x.f0) && decide (x.f0 ≤ a0 - 1))) with
  | true =>
    have H1 := Aside0.mk h1
    clear h1
    go_wp2
    go_ret
    exact ⟨by rw [HQ.out, H1.out]; rfl, HB2.out⟩
  | false =>
    have H1 := Aside0.mk h1
    clear h1
    go_wp2_with fail
    refine (containsFunc114 116 #[] eg116 (fun x => x.f1 != 1 && x.f1 != -1) A2 c2 l2 _ ?hr ?hp).mono ?_
    case hr => exact Kd.C_below HR2.out HB2.out
    case hp =>
      intro W x _ hbW
      exact lit116 x W
    rintro e w3 ⟨rfl, hb3⟩
    have HB3 := Aside0.mk (HB2.out.trans (hb3.mono HB2.out.size))
    clear HB2 hb3
    cases h2 : l2.any (fun x => x.f1 != 1 && x.f1 != -1) with
    | true =>
      have H2 := Aside0.mk h2
      clear h2
      go_wp2
      go_ret
      exact ⟨by rw [HQ.out, H1.out, H2.out]; rfl, HB3.out⟩
    | false =>
      have H2 := Aside0.mk h2
      clear h2
      go_wp2
      go_ret
      exact ⟨by rw [HQ.out, H1.out, H2.out]; rfl, HB3.out⟩
end Go.Proofs.Ytdbeochifofdoaa.X
end
