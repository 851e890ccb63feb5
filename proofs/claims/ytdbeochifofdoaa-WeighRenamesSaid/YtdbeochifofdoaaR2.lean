/- Rename gives the lots other numbers, for all plans and lists, and the plan tells as well.
Its conditions: none beyond the statement's own. Part 3 of 5 of the proof. -/
import Derived.Handy
import Derived.WalkSpells
import Derived.Deep.QuietTactic
import Derived.Test.YtdbeochifofdoaaRz0
import Derived.Test.YtdbeochifofdoaaR1
section
/-! verditerref06.isSet. -/
namespace Go.Proofs.Ytdbeochifofdoaa.X
open Go.RowKit Go.Proofs.YtdbeochifofdoaaW.PrintWords Go.Proofs.YtdbeochifofdoaaW.PrintLast Go.Proofs.YtdbeochifofdoaaW.PrintMore
set_option linter.unusedVariables false
set_option linter.unusedSimpArgs false

def verditerref06_isSet.f (k : Nat) (l0 : List Int) (a1 : Int) : Option Bool := if 1 ≤ a1 ∧ a1 ≤ 13 then some (isSetB a1 l0) else none
theorem rwithin_b (a b c : Int) : verditerref06_within.f a b c = some (decide (b ≤ a) && decide (a ≤ c)) := by
  unfold verditerref06_within.f
  by_cases h : a ≥ b
  · rw [if_pos h]; simp [h]
  · rw [if_neg h]; simp [show ¬ b ≤ a from h]

set_option maxHeartbeats 4000000 in
set_option maxRecDepth 100000 in
theorem verditerref06_isSet.calls (k : Nat) (A0 : Option Addr) (c0 : Nat) (l0 : List Int) (a1 : Int) (r : Bool) (w : World) (hr0 : Kd.C (Kd.int .i64) w A0 l0.length l0) (hc0 : l0.length ≤ c0) (h : verditerref06_isSet.f k l0 a1 = some r) :
    Calls Try.prog 100 #[.slice A0 l0.length c0, .int .i64 a1] w fun e w' => e = .returned (.bool r) ∧ Drawn0 w w' := by
  unfold verditerref06_isSet.f at h
  by_cases hp : 1 ≤ a1 ∧ a1 ≤ 13
  rotate_left
  · rw [if_neg hp] at h; cases h
  rw [if_pos hp] at h
  obtain rfl := Option.some.inj h
  clear h
  have hp1 := hp.1
  have hp2 := hp.2
  have hmx := Kd.C_max hr0
  have HR := Aside0.mk hr0
  clear hr0 hp
  have hwa : IntKind.i64.wrap (a1 - 1) = a1 - 1 := (i64_w _).trans (wr_of (by omega) (by omega))
  go_enter Try.func100, Try.ntmps100
  go_wp2
  go_loopg [5] l0.length (fun gg s wr => ∃ i : Nat, i ≤ l0.length ∧ l0.length - i ≤ gg ∧ s = .int .i64 i ∧ Aside0 (∃ n, wr = w.drewN n) ∧ Aside0 (setFrom a1 (prevOf l0 i) (l0.drop i) = isSetB a1 l0))
  case atStart => exact ⟨0, by omega, by omega, rfl, ⟨⟨0, rfl⟩⟩, ⟨rfl⟩⟩
  case round =>
    obtain ⟨i, hi, hg, rfl, BW, SV⟩ := hrel
    obtain ⟨n, rfl⟩ := BW.out
    clear BW
    by_cases hlt : i < l0.length
    · have hltz : (i : Int) < (l0.length : Int) := by omega
      obtain ⟨ad, e1, hx⟩ := Kd.at_int HR.out i (by omega) hltz
      subst e1
      simp only [Int.toNat_natCast] at hx
      rw [rd_nat] at hx
      have SV2 : Aside0 ((((decide (0 ≤ l0.getD i 0) && decide (l0.getD i 0 ≤ a1 - 1)) && aboveB (prevOf l0 i) (l0.getD i 0)) && setFrom a1 (some (l0.getD i 0)) (l0.drop (i + 1))) = isSetB a1 l0) := ⟨by rw [← SV.out, dropD 0 l0 i hlt]; rfl⟩
      have PN : Aside0 (prevOf l0 (i + 1) = some (l0.getD i 0)) := ⟨by unfold prevOf; rw [if_neg (by omega)]; rfl⟩
      clear SV
      have HWF := Aside0.mk (rwithin_b (l0.getD i 0) 0 (a1 - 1))
      cases hb : (decide (0 ≤ l0.getD i 0) && decide (l0.getD i 0 ≤ a1 - 1)) with
      | false =>
        rw [hb] at HWF SV2
        clear hb
        generalize l0.getD i 0 = x at *
        go_wp2
        go_quiet (first | (go_at_call 82; (with_reducible refine (verditerref06_within.calls x 0 (a1 - 1) false _ HWF.out).mono ?_); rintro e w' ⟨rfl, ⟨nd, rfl⟩⟩; (first | exact ⟨rfl, _, World.drewN_drewN _ _ _⟩ | exact ⟨rfl, _, Eq.trans (World.drewN_drewN _ _ _) (congrArg (World.drewN _) (Nat.add_assoc _ _ _))⟩)))
        go_wp2
        go_ret
        have hz : isSetB a1 l0 = false := by rw [← SV2.out]; rfl
        exact ⟨by rw [hz]; rfl, ⟨_, by first | rfl | exact World.drewN_drewN _ _ _⟩⟩
      | true =>
        rw [hb] at HWF SV2
        clear hb
        by_cases hi0 : i = 0
        · subst hi0
          rw [show ad.add 0 = ad from by cases ad; rfl] at hx
          have AB : Aside0 (setFrom a1 (prevOf l0 1) (l0.drop 1) = isSetB a1 l0) := ⟨by rw [← SV2.out, PN.out]; rfl⟩
          clear SV2 PN
          generalize l0.getD 0 0 = x at *
          go_wp2
          go_quiet (first | (go_at_call 82; (with_reducible refine (verditerref06_within.calls x 0 (a1 - 1) true _ HWF.out).mono ?_); rintro e w' ⟨rfl, ⟨nd, rfl⟩⟩; (first | exact ⟨rfl, _, World.drewN_drewN _ _ _⟩ | exact ⟨rfl, _, Eq.trans (World.drewN_drewN _ _ _) (congrArg (World.drewN _) (Nat.add_assoc _ _ _))⟩)))
          go_wp2
          go_roundg (l0.length - 1)
          case measure => omega
          case rel => exact ⟨1, by omega, by omega, by go_num, ⟨⟨_, by first | rfl | exact World.drewN_drewN _ _ _⟩⟩, AB⟩
        · have h0n : 0 < i := by omega
          have h0z : (0 : Int) < (i : Int) := by omega
          have h1z : (0 : Int) ≤ (i : Int) - 1 := by omega
          have h2z : (i : Int) - 1 < (l0.length : Int) := by omega
          have h3z : ((i : Int) - 1).toNat = i - 1 := by omega
          have hwi : IntKind.i64.wrap ((i : Int) - 1) = (i : Int) - 1 := (i64_w _).trans (wr_of (by omega) (by omega))
          obtain ⟨bd, e2, hy⟩ := Kd.at_int HR.out ((i : Int) - 1) h1z h2z
          cases e2
          rw [h3z, show rd l0 ((i : Int) - 1) = l0.getD (i - 1) 0 by unfold rd; rw [h3z]] at hy
          have SV3 : Aside0 ((decide (l0.getD (i - 1) 0 < l0.getD i 0) && setFrom a1 (some (l0.getD i 0)) (l0.drop (i + 1))) = isSetB a1 l0) := ⟨by rw [← SV2.out, show prevOf l0 i = some (l0.getD (i - 1) 0) by unfold prevOf; rw [if_neg hi0]]; rfl⟩
          by_cases hlt2 : l0.getD (i - 1) 0 < l0.getD i 0
          · have AB : Aside0 (setFrom a1 (prevOf l0 (i + 1)) (l0.drop (i + 1)) = isSetB a1 l0) := ⟨by rw [← SV3.out, PN.out, decide_eq_true hlt2]; rfl⟩
            clear SV2 SV3 PN
            generalize l0.getD i 0 = x at *
            generalize l0.getD (i - 1) 0 = y at *
            have hle : ¬ x ≤ y := by omega
            go_wp2
            go_quiet (first | (go_at_call 82; (with_reducible refine (verditerref06_within.calls x 0 (a1 - 1) true _ HWF.out).mono ?_); rintro e w' ⟨rfl, ⟨nd, rfl⟩⟩; (first | exact ⟨rfl, _, World.drewN_drewN _ _ _⟩ | exact ⟨rfl, _, Eq.trans (World.drewN_drewN _ _ _) (congrArg (World.drewN _) (Nat.add_assoc _ _ _))⟩)))
            go_wp2
            go_roundg (l0.length - (i + 1))
            case measure => omega
            case rel => exact ⟨i + 1, by omega, by omega, by go_num, ⟨⟨_, by first | rfl | exact World.drewN_drewN _ _ _⟩⟩, AB⟩
          · have AB : Aside0 (isSetB a1 l0 = false) := ⟨by rw [← SV3.out, decide_eq_false hlt2]; rfl⟩
            clear SV2 SV3 PN
            generalize l0.getD i 0 = x at *
            generalize l0.getD (i - 1) 0 = y at *
            have hle : x ≤ y := by omega
            go_wp2
            go_quiet (first | (go_at_call 82; (with_reducible refine (verditerref06_within.calls x 0 (a1 - 1) true _ HWF.out).mono ?_); rintro e w' ⟨rfl, ⟨nd, rfl⟩⟩; (first | exact ⟨rfl, _, World.drewN_drewN _ _ _⟩ | exact ⟨rfl, _, Eq.trans (World.drewN_drewN _ _ _) (congrArg (World.drewN _) (Nat.add_assoc _ _ _))⟩)))
            go_wp2
            go_ret
            have hz := AB.out
            exact ⟨by rw [hz]; rfl, ⟨_, by first | rfl | exact World.drewN_drewN _ _ _⟩⟩
    · have hltz : ¬ (i : Int) < (l0.length : Int) := by omega
      have AB : Aside0 (isSetB a1 l0 = true) := ⟨by rw [← SV.out, List.drop_eq_nil_of_le (by omega)]; rfl⟩
      clear SV
      go_wp2
      go_ret
      have hz := AB.out
      exact ⟨by rw [hz]; rfl, ⟨_, rfl⟩⟩
end Go.Proofs.Ytdbeochifofdoaa.X
end

section
-- Written by a program of this session (wip/hook.py, which runs the kit's print.py with contracts proved by hand). Not trusted: Lean checks it.
namespace Go.Proofs.Ytdbeochifofdoaa.X
open Go.RowKit Go.Proofs.YtdbeochifofdoaaW.PrintWords Go.Proofs.YtdbeochifofdoaaW.PrintLast Go.Proofs.YtdbeochifofdoaaW.PrintMore
attribute [local go_sem] max2_int min2_int max_two min_two max_three min_three max_four min_four   -- for this text's walks alone
set_option linter.unusedVariables false
set_option linter.unusedSimpArgs false

/-! ### verditerref06_Validate: function 59 -/
mutual
def verditerref06_Validate.l0 : Nat → Int → List (S53) → Int → Option (Int)
  | 0, _, _, _ => none
  | k + 1, x0, x1, x5 => if x5 < (x1.length : Int) then (if 0 ≤ x5 then ((verditerref06_isSet.f k ((rd_T53 x1 x5).f0) x0).bind fun t186 => (if t186 = true then ((verditerref06_isSet.f k ((rd_T53 x1 x5).f1) x0).bind fun t188 => (verditerref06_Validate.j1 k x0 x1 x5 (!t188))) else (verditerref06_Validate.j1 k x0 x1 x5 true))) else (none)) else (some 0)
def verditerref06_Validate.j1 : Nat → Int → List (S53) → Int → Bool → Option (Int)
  | 0, _, _, _, _ => none
  | k + 1, x0, x1, x5, x36 => if x36 = true then (some 1) else (verditerref06_Validate.l1 k x0 x1 x5 0)
def verditerref06_Validate.l1 : Nat → Int → List (S53) → Int → Int → Option (Int)
  | 0, _, _, _, _ => none
  | k + 1, x0, x1, x5, x6 => if 0 ≤ x5 then (if x5 < (x1.length : Int) then (if x6 < (((rd_T53 x1 x5).f0).length : Int) then (if 0 ≤ x6 then ((verditerref06_has.f k ((rd_T53 x1 x5).f1) (rd ((rd_T53 x1 x5).f0) x6)).bind fun t193 => (if t193 = true then (some 6) else (verditerref06_Validate.l1 k x0 x1 x5 (wrap64 (x6 + 1))))) else (none)) else (if (((rd_T53 x1 x5).f0).length : Int) = (((rd_T53 x1 x5).f1).length : Int) then (verditerref06_Validate.l0 k x0 x1 (wrap64 (x5 + 1))) else (some 5))) else (none)) else (none)
end
def verditerref06_Validate.f (k : Nat) (a0 : Int) (l1 : List (S53)) : Option (Int) := (verditerref06_within.f a0 1 13).bind fun t184 => (if t184 = true then (if (l1.length : Int) > 3 then (some 3) else (verditerref06_Validate.l0 k a0 l1 0)) else (some 1))
set_option maxHeartbeats 8000000 in
set_option maxRecDepth 100000 in
theorem verditerref06_Validate.calls (k : Nat) (a0 : Int) (A1 : Option Addr) (c1 : Nat) (l1 : List (S53)) (r : Int) (w : World) (hr1 : Kd.C k53 w A1 l1.length l1) (hc1 : l1.length ≤ c1) (h : verditerref06_Validate.f k a0 l1 = some r) :
    Calls Try.prog 59 #[.int .i64 a0, .slice A1 l1.length c1] w fun e w' => e = .returned (.int .i64 r) ∧ Drawn0 w w' := by
  have HR1 := Aside0.mk hr1
  have HC1 := Aside0.mk hc1
  clear hr1 hc1
  have H : ((verditerref06_within.f a0 1 13).bind fun t184 => (if t184 = true then (if (l1.length : Int) > 3 then (some 3) else (verditerref06_Validate.l0 k a0 l1 0)) else (some 1))) = some r := h
  clear h
  replace H := Option.bind_eq_some_iff.mp H
  obtain ⟨t184, A30, H⟩ := H
  replace H : (if t184 = true then (if (l1.length : Int) > 3 then (some 3) else (verditerref06_Validate.l0 k a0 l1 0)) else (some 1)) = some r := H
  have A3 := Aside0.mk A30
  clear A30
  by_cases c4 : t184 = true
  · subst c4
    have H1 : (if (l1.length : Int) > 3 then (some 3) else (verditerref06_Validate.l0 k a0 l1 0)) = some r := by rw [if_pos rfl] at H; exact H
    clear H
    have H := H1
    clear H1
    by_cases c5 : (l1.length : Int) > 3
    · rw [if_pos c5] at H
      have c5b0 : decide (3 < (l1.length : Int)) = true := decide_eq_true c5
      have c5b1 : decide (3 < l1.length) = true := decide_eq_true (by omega)
      clear c5
      obtain rfl := Option.some.inj H
      go_enter Try.func59, Try.ntmps59
      go_wp2_with (first | (go_at_call 82; (with_reducible refine (verditerref06_within.calls a0 1 13 true _ A3.out).mono ?_); rintro e w' ⟨rfl, ⟨nd, rfl⟩⟩; (try first | exact ⟨rfl, _, World.drewN_drewN _ _ _⟩ | exact ⟨rfl, _, Eq.trans (World.drewN_drewN _ _ _) (congrArg (World.drewN _) (Nat.add_assoc _ _ _))⟩)))
      repeat (go_quiet (first | (go_at_call 82; (with_reducible refine (verditerref06_within.calls a0 1 13 true _ A3.out).mono ?_); rintro e w' ⟨rfl, ⟨nd, rfl⟩⟩; (try first | exact ⟨rfl, _, World.drewN_drewN _ _ _⟩ | exact ⟨rfl, _, Eq.trans (World.drewN_drewN _ _ _) (congrArg (World.drewN _) (Nat.add_assoc _ _ _))⟩))); try go_wp2_with (first | (go_at_call 82; (with_reducible refine (verditerref06_within.calls a0 1 13 true _ A3.out).mono ?_); rintro e w' ⟨rfl, ⟨nd, rfl⟩⟩; (try first | exact ⟨rfl, _, World.drewN_drewN _ _ _⟩ | exact ⟨rfl, _, Eq.trans (World.drewN_drewN _ _ _) (congrArg (World.drewN _) (Nat.add_assoc _ _ _))⟩))))
      go_ret
      exact ⟨by first | rfl | (simp; done) | (simp [*]; done), by repeat (first | exact Drawn0.refl _ | apply Drawn0.step)⟩
    · rw [if_neg c5] at H
      have c5b0 : decide (3 < (l1.length : Int)) = false := decide_eq_false c5
      have c5b1 : decide (3 < l1.length) = false := decide_eq_false (by omega)
      clear c5
      have H' := Aside0.mk H
      clear H
      go_enter Try.func59, Try.ntmps59
      go_wp2_with (first | (go_at_call 82; (with_reducible refine (verditerref06_within.calls a0 1 13 true _ A3.out).mono ?_); rintro e w' ⟨rfl, ⟨nd, rfl⟩⟩; (try first | exact ⟨rfl, _, World.drewN_drewN _ _ _⟩ | exact ⟨rfl, _, Eq.trans (World.drewN_drewN _ _ _) (congrArg (World.drewN _) (Nat.add_assoc _ _ _))⟩)))
      repeat (go_quiet (first | (go_at_call 82; (with_reducible refine (verditerref06_within.calls a0 1 13 true _ A3.out).mono ?_); rintro e w' ⟨rfl, ⟨nd, rfl⟩⟩; (try first | exact ⟨rfl, _, World.drewN_drewN _ _ _⟩ | exact ⟨rfl, _, Eq.trans (World.drewN_drewN _ _ _) (congrArg (World.drewN _) (Nat.add_assoc _ _ _))⟩))); try go_wp2_with (first | (go_at_call 82; (with_reducible refine (verditerref06_within.calls a0 1 13 true _ A3.out).mono ?_); rintro e w' ⟨rfl, ⟨nd, rfl⟩⟩; (try first | exact ⟨rfl, _, World.drewN_drewN _ _ _⟩ | exact ⟨rfl, _, Eq.trans (World.drewN_drewN _ _ _) (congrArg (World.drewN _) (Nat.add_assoc _ _ _))⟩))))
      go_loopg [5] k (fun kq v5 w' => ∃ (x5_1 : Int), v5 = .int .i64 x5_1 ∧ Aside0 (verditerref06_Validate.l0 kq a0 l1 x5_1 = some r) ∧ Aside0 (kq ≤ k) ∧ Drawn0 w w')
      case atStart => exact ⟨(0), (by first | rfl | (simp; done) | (simp [*]; done)), H', ⟨Nat.le_refl _⟩, by repeat (first | exact Drawn0.refl _ | apply Drawn0.step)⟩
      case round =>
        clear H'
        try clear c1
        try clear p2
        try clear c4
        try clear c5
        try clear c5b0
        try clear c5b1
        obtain ⟨x5_1, rfl, HA, HK1, ⟨m1, rfl⟩⟩ := hrel
        cases gk with
        | zero => exact absurd HA.out (by simp [verditerref06_Validate.l0])
        | succ k1 =>
          have H := HA.out
          clear HA
          simp only [verditerref06_Validate.l0] at H
          by_cases c6 : x5_1 < (l1.length : Int)
          · rw [if_pos c6] at H
            have c6b0 : decide (x5_1 < (l1.length : Int)) = true := decide_eq_true c6
            clear c6
            have HC7 := Aside0.mk H
            clear H
            go_upto_region 8 with (fail)
            repeat (go_quiet (fail); go_upto_region 8 with (fail))
            go_cut [36] (fun v36 wc => ∃ (kq : Nat) (x36_6 : Bool), v36 = .bool x36_6 ∧ Aside0 (verditerref06_Validate.j1 kq a0 l1 x5_1 x36_6 = some r) ∧ Aside0 (kq ≤ k1) ∧ Drawn0 w wc)
            case first =>
              have H := HC7.out
              clear HC7
              by_cases c8 : 0 ≤ x5_1
              · rw [if_pos c8] at H
                have c8b0 : decide (0 ≤ x5_1) = true := decide_eq_true c8
                clear c8
                (first | rw [c8b0] | (simp only [i64_w, i32_w]; rw [c8b0]) | skip)
                replace H := Option.bind_eq_some_iff.mp H
                obtain ⟨t186, A90, H⟩ := H
                replace H : (if t186 = true then ((verditerref06_isSet.f k1 ((rd_T53 l1 x5_1).f1) a0).bind fun t188 => (verditerref06_Validate.j1 k1 a0 l1 x5_1 (!t188))) else (verditerref06_Validate.j1 k1 a0 l1 x5_1 true)) = some r := H
                have A9 := Aside0.mk A90
                clear A90
                by_cases c10 : t186 = true
                · subst c10
                  have H1 : ((verditerref06_isSet.f k1 ((rd_T53 l1 x5_1).f1) a0).bind fun t188 => (verditerref06_Validate.j1 k1 a0 l1 x5_1 (!t188))) = some r := by rw [if_pos rfl] at H; exact H
                  clear H
                  have H := H1
                  clear H1
                  replace H := Option.bind_eq_some_iff.mp H
                  obtain ⟨t188, A110, H⟩ := H
                  replace H : (verditerref06_Validate.j1 k1 a0 l1 x5_1 (!t188)) = some r := H
                  have A11 := Aside0.mk A110
                  clear A110
                  have H' := Aside0.mk H
                  clear H
                  have p185 : 0 ≤ (x5_1 : Int) := of_decide_eq_true (by first | (with_reducible assumption) | assumption)
                  have q185 : x5_1 < (l1.length : Int) := of_decide_eq_true (by first | (with_reducible assumption) | assumption)
                  obtain ⟨ad185, A185_0, c185_0, A185_1, c185_1, e185, hx185_0, hx185_1, hl185_0, hi185_0, hl185_1, hi185_1⟩ := at_T53 HR1.out x5_1 p185 q185
                  cases e185
                  have HR185_0 := Aside0.mk hi185_0
                  have HC185_0 := Aside0.mk hl185_0
                  clear hi185_0 hl185_0
                  have HR185_1 := Aside0.mk hi185_1
                  have HC185_1 := Aside0.mk hl185_1
                  clear hi185_1 hl185_1
                  replace p185 := eq_true p185
                  replace q185 := eq_true q185
                  go_wp2_with (first | (go_at_call 100; (with_reducible refine (verditerref06_isSet.calls k1 _ _ ((rd_T53 l1 x5_1).f0) a0 true _ ?side1 ?side2 A9.out).mono ?_); (case side1 => repeat (first | exact HR185_0.out | (with_reducible refine Kd.C_alloc ?_ _) | (with_reducible refine Kd.C_drewN ?_ _) | (with_reducible refine Kd.C_drew ?_))); (case side2 => exact HC185_0.out); rintro e w' ⟨rfl, ⟨nd, rfl⟩⟩; (try first | exact ⟨rfl, _, World.drewN_drewN _ _ _⟩ | exact ⟨rfl, _, Eq.trans (World.drewN_drewN _ _ _) (congrArg (World.drewN _) (Nat.add_assoc _ _ _))⟩); have p187 : 0 ≤ (x5_1 : Int) := of_decide_eq_true (by first | (with_reducible assumption) | assumption); have q187 : x5_1 < (l1.length : Int) := of_decide_eq_true (by first | (with_reducible assumption) | assumption); obtain ⟨ad187, A187_0, c187_0, A187_1, c187_1, e187, hx187_0, hx187_1, hl187_0, hi187_0, hl187_1, hi187_1⟩ := at_T53 HR1.out x5_1 p187 q187; obtain rfl : ad185 = ad187 := (by injection e187); have HR187_0 := Aside0.mk hi187_0; have HC187_0 := Aside0.mk hl187_0; clear hi187_0 hl187_0; have HR187_1 := Aside0.mk hi187_1; have HC187_1 := Aside0.mk hl187_1; clear hi187_1 hl187_1; replace p187 := eq_true p187; replace q187 := eq_true q187; have ea_ := Option.some.inj (hx185_0.symm.trans hx187_0); injection ea_ with ea_ en_ ec_; subst ea_; subst ec_; clear en_; have ea_ := Option.some.inj (hx185_1.symm.trans hx187_1); injection ea_ with ea_ en_ ec_; subst ea_; subst ec_; clear en_) | (go_at_call 100; (with_reducible refine (verditerref06_isSet.calls k1 _ _ ((rd_T53 l1 x5_1).f1) a0 t188 _ ?side1 ?side2 A11.out).mono ?_); (case side1 => repeat (first | exact HR187_1.out | (with_reducible refine Kd.C_alloc ?_ _) | (with_reducible refine Kd.C_drewN ?_ _) | (with_reducible refine Kd.C_drew ?_))); (case side2 => exact HC187_1.out); rintro e w' ⟨rfl, ⟨nd, rfl⟩⟩; (try first | exact ⟨rfl, _, World.drewN_drewN _ _ _⟩ | exact ⟨rfl, _, Eq.trans (World.drewN_drewN _ _ _) (congrArg (World.drewN _) (Nat.add_assoc _ _ _))⟩)))
                  repeat (go_quiet (first | (go_at_call 100; (with_reducible refine (verditerref06_isSet.calls k1 _ _ ((rd_T53 l1 x5_1).f0) a0 true _ ?side1 ?side2 A9.out).mono ?_); (case side1 => repeat (first | exact HR185_0.out | (with_reducible refine Kd.C_alloc ?_ _) | (with_reducible refine Kd.C_drewN ?_ _) | (with_reducible refine Kd.C_drew ?_))); (case side2 => exact HC185_0.out); rintro e w' ⟨rfl, ⟨nd, rfl⟩⟩; (try first | exact ⟨rfl, _, World.drewN_drewN _ _ _⟩ | exact ⟨rfl, _, Eq.trans (World.drewN_drewN _ _ _) (congrArg (World.drewN _) (Nat.add_assoc _ _ _))⟩); have p187 : 0 ≤ (x5_1 : Int) := of_decide_eq_true (by first | (with_reducible assumption) | assumption); have q187 : x5_1 < (l1.length : Int) := of_decide_eq_true (by first | (with_reducible assumption) | assumption); obtain ⟨ad187, A187_0, c187_0, A187_1, c187_1, e187, hx187_0, hx187_1, hl187_0, hi187_0, hl187_1, hi187_1⟩ := at_T53 HR1.out x5_1 p187 q187; obtain rfl : ad185 = ad187 := (by injection e187); have HR187_0 := Aside0.mk hi187_0; have HC187_0 := Aside0.mk hl187_0; clear hi187_0 hl187_0; have HR187_1 := Aside0.mk hi187_1; have HC187_1 := Aside0.mk hl187_1; clear hi187_1 hl187_1; replace p187 := eq_true p187; replace q187 := eq_true q187; have ea_ := Option.some.inj (hx185_0.symm.trans hx187_0); injection ea_ with ea_ en_ ec_; subst ea_; subst ec_; clear en_; have ea_ := Option.some.inj (hx185_1.symm.trans hx187_1); injection ea_ with ea_ en_ ec_; subst ea_; subst ec_; clear en_) | (go_at_call 100; (with_reducible refine (verditerref06_isSet.calls k1 _ _ ((rd_T53 l1 x5_1).f1) a0 t188 _ ?side1 ?side2 A11.out).mono ?_); (case side1 => repeat (first | exact HR187_1.out | (with_reducible refine Kd.C_alloc ?_ _) | (with_reducible refine Kd.C_drewN ?_ _) | (with_reducible refine Kd.C_drew ?_))); (case side2 => exact HC187_1.out); rintro e w' ⟨rfl, ⟨nd, rfl⟩⟩; (try first | exact ⟨rfl, _, World.drewN_drewN _ _ _⟩ | exact ⟨rfl, _, Eq.trans (World.drewN_drewN _ _ _) (congrArg (World.drewN _) (Nat.add_assoc _ _ _))⟩))); try go_wp2_with (first | (go_at_call 100; (with_reducible refine (verditerref06_isSet.calls k1 _ _ ((rd_T53 l1 x5_1).f0) a0 true _ ?side1 ?side2 A9.out).mono ?_); (case side1 => repeat (first | exact HR185_0.out | (with_reducible refine Kd.C_alloc ?_ _) | (with_reducible refine Kd.C_drewN ?_ _) | (with_reducible refine Kd.C_drew ?_))); (case side2 => exact HC185_0.out); rintro e w' ⟨rfl, ⟨nd, rfl⟩⟩; (try first | exact ⟨rfl, _, World.drewN_drewN _ _ _⟩ | exact ⟨rfl, _, Eq.trans (World.drewN_drewN _ _ _) (congrArg (World.drewN _) (Nat.add_assoc _ _ _))⟩); have p187 : 0 ≤ (x5_1 : Int) := of_decide_eq_true (by first | (with_reducible assumption) | assumption); have q187 : x5_1 < (l1.length : Int) := of_decide_eq_true (by first | (with_reducible assumption) | assumption); obtain ⟨ad187, A187_0, c187_0, A187_1, c187_1, e187, hx187_0, hx187_1, hl187_0, hi187_0, hl187_1, hi187_1⟩ := at_T53 HR1.out x5_1 p187 q187; obtain rfl : ad185 = ad187 := (by injection e187); have HR187_0 := Aside0.mk hi187_0; have HC187_0 := Aside0.mk hl187_0; clear hi187_0 hl187_0; have HR187_1 := Aside0.mk hi187_1; have HC187_1 := Aside0.mk hl187_1; clear hi187_1 hl187_1; replace p187 := eq_true p187; replace q187 := eq_true q187; have ea_ := Option.some.inj (hx185_0.symm.trans hx187_0); injection ea_ with ea_ en_ ec_; subst ea_; subst ec_; clear en_; have ea_ := Option.some.inj (hx185_1.symm.trans hx187_1); injection ea_ with ea_ en_ ec_; subst ea_; subst ec_; clear en_) | (go_at_call 100; (with_reducible refine (verditerref06_isSet.calls k1 _ _ ((rd_T53 l1 x5_1).f1) a0 t188 _ ?side1 ?side2 A11.out).mono ?_); (case side1 => repeat (first | exact HR187_1.out | (with_reducible refine Kd.C_alloc ?_ _) | (with_reducible refine Kd.C_drewN ?_ _) | (with_reducible refine Kd.C_drew ?_))); (case side2 => exact HC187_1.out); rintro e w' ⟨rfl, ⟨nd, rfl⟩⟩; (try first | exact ⟨rfl, _, World.drewN_drewN _ _ _⟩ | exact ⟨rfl, _, Eq.trans (World.drewN_drewN _ _ _) (congrArg (World.drewN _) (Nat.add_assoc _ _ _))⟩))))
                  go_meet
                  case rel => exact ⟨_, (!t188), (by first | rfl | (simp; done) | (simp [*]; done)), H', ⟨by have := HK1.out; first | omega | exact Nat.le_refl _⟩, by repeat (first | exact Drawn0.refl _ | apply Drawn0.step)⟩
                · replace c10 := Bool.eq_false_iff.mpr c10
                  subst c10
                  have H1 : (verditerref06_Validate.j1 k1 a0 l1 x5_1 true) = some r := by rw [if_neg (show ¬ (false = true) by decide)] at H; exact H
                  clear H
                  have H := H1
                  clear H1
                  have H' := Aside0.mk H
                  clear H
                  have p185 : 0 ≤ (x5_1 : Int) := of_decide_eq_true (by first | (with_reducible assumption) | assumption)
                  have q185 : x5_1 < (l1.length : Int) := of_decide_eq_true (by first | (with_reducible assumption) | assumption)
                  obtain ⟨ad185, A185_0, c185_0, A185_1, c185_1, e185, hx185_0, hx185_1, hl185_0, hi185_0, hl185_1, hi185_1⟩ := at_T53 HR1.out x5_1 p185 q185
                  cases e185
                  have HR185_0 := Aside0.mk hi185_0
                  have HC185_0 := Aside0.mk hl185_0
                  clear hi185_0 hl185_0
                  have HR185_1 := Aside0.mk hi185_1
                  have HC185_1 := Aside0.mk hl185_1
                  clear hi185_1 hl185_1
                  replace p185 := eq_true p185
                  replace q185 := eq_true q185
                  go_wp2_with (first | (go_at_call 100; (with_reducible refine (verditerref06_isSet.calls k1 _ _ ((rd_T53 l1 x5_1).f0) a0 false _ ?side1 ?side2 A9.out).mono ?_); (case side1 => repeat (first | exact HR185_0.out | (with_reducible refine Kd.C_alloc ?_ _) | (with_reducible refine Kd.C_drewN ?_ _) | (with_reducible refine Kd.C_drew ?_))); (case side2 => exact HC185_0.out); rintro e w' ⟨rfl, ⟨nd, rfl⟩⟩; (try first | exact ⟨rfl, _, World.drewN_drewN _ _ _⟩ | exact ⟨rfl, _, Eq.trans (World.drewN_drewN _ _ _) (congrArg (World.drewN _) (Nat.add_assoc _ _ _))⟩)))
                  repeat (go_quiet (first | (go_at_call 100; (with_reducible refine (verditerref06_isSet.calls k1 _ _ ((rd_T53 l1 x5_1).f0) a0 false _ ?side1 ?side2 A9.out).mono ?_); (case side1 => repeat (first | exact HR185_0.out | (with_reducible refine Kd.C_alloc ?_ _) | (with_reducible refine Kd.C_drewN ?_ _) | (with_reducible refine Kd.C_drew ?_))); (case side2 => exact HC185_0.out); rintro e w' ⟨rfl, ⟨nd, rfl⟩⟩; (try first | exact ⟨rfl, _, World.drewN_drewN _ _ _⟩ | exact ⟨rfl, _, Eq.trans (World.drewN_drewN _ _ _) (congrArg (World.drewN _) (Nat.add_assoc _ _ _))⟩))); try go_wp2_with (first | (go_at_call 100; (with_reducible refine (verditerref06_isSet.calls k1 _ _ ((rd_T53 l1 x5_1).f0) a0 false _ ?side1 ?side2 A9.out).mono ?_); (case side1 => repeat (first | exact HR185_0.out | (with_reducible refine Kd.C_alloc ?_ _) | (with_reducible refine Kd.C_drewN ?_ _) | (with_reducible refine Kd.C_drew ?_))); (case side2 => exact HC185_0.out); rintro e w' ⟨rfl, ⟨nd, rfl⟩⟩; (try first | exact ⟨rfl, _, World.drewN_drewN _ _ _⟩ | exact ⟨rfl, _, Eq.trans (World.drewN_drewN _ _ _) (congrArg (World.drewN _) (Nat.add_assoc _ _ _))⟩))))
                  go_meet
                  case rel => exact ⟨_, (true), (by first | rfl | (simp; done) | (simp [*]; done)), H', ⟨by have := HK1.out; first | omega | exact Nat.le_refl _⟩, by repeat (first | exact Drawn0.refl _ | apply Drawn0.step)⟩
              · rw [if_neg c8] at H
                exact absurd H (by simp)
            case rest =>
              clear HC7
              try clear c1
              try clear p1
              try clear q1
              try clear hx1
              try clear p2
              try clear c4
              try clear c5
              try clear c5b0
              try clear c5b1
              try clear c6
              try clear c6b0
              try clear c8
              try clear c8b0
              try clear c10
              try clear hx185_0
              try clear hx185_1
              try clear hx187_0
              try clear hx187_1
              try clear p185
              try clear p187
              try clear p2
              try clear q185
              try clear q187
              obtain ⟨kq, x36_6, rfl, HA, HJ6, ⟨mc6, rfl⟩⟩ := hcut
              cases kq with
              | zero => exact absurd HA.out (by simp [verditerref06_Validate.j1])
              | succ kj6 =>
                have H := HA.out
                clear HA
                simp only [verditerref06_Validate.j1] at H
                by_cases c12 : x36_6 = true
                · subst c12
                  have H1 : (some 1) = some r := by rw [if_pos rfl] at H; exact H
                  clear H
                  have H := H1
                  clear H1
                  obtain rfl := Option.some.inj H
                  go_wp2
                  repeat (go_quiet (fail); try go_wp2)
                  go_ret
                  exact ⟨by first | rfl | (simp; done) | (simp [*]; done), by repeat (first | exact Drawn0.refl _ | apply Drawn0.step)⟩
                · replace c12 := Bool.eq_false_iff.mpr c12
                  subst c12
                  have H1 : (verditerref06_Validate.l1 kj6 a0 l1 x5_1 0) = some r := by rw [if_neg (show ¬ (false = true) by decide)] at H; exact H
                  clear H
                  have H := H1
                  clear H1
                  have H' := Aside0.mk H
                  clear H
                  go_wp2
                  repeat (go_quiet (fail); try go_wp2)
                  go_loopg [6] kj6 (fun kq v6 w' => ∃ (x6_3 : Int), v6 = .int .i64 x6_3 ∧ Aside0 (verditerref06_Validate.l1 kq a0 l1 x5_1 x6_3 = some r) ∧ Aside0 (kq ≤ kj6) ∧ Drawn0 w w')
                  case atStart => exact ⟨(0), (by first | rfl | (simp; done) | (simp [*]; done)), H', ⟨Nat.le_refl _⟩, by repeat (first | exact Drawn0.refl _ | apply Drawn0.step)⟩
                  case round =>
                    clear H'
                    try clear c1
                    try clear p1
                    try clear q1
                    try clear hx1
                    try clear p2
                    try clear c4
                    try clear c5
                    try clear c5b0
                    try clear c5b1
                    try clear c6
                    try clear c6b0
                    try clear c8
                    try clear c8b0
                    try clear c10
                    try clear c12
                    try clear hx185_0
                    try clear hx185_1
                    try clear hx187_0
                    try clear hx187_1
                    try clear p1
                    try clear p185
                    try clear p187
                    try clear p2
                    try clear q1
                    try clear q185
                    try clear q187
                    obtain ⟨x6_3, rfl, HA, HK3, ⟨m3, rfl⟩⟩ := hrel
                    cases gk with
                    | zero => exact absurd HA.out (by simp [verditerref06_Validate.l1])
                    | succ k3 =>
                      have H := HA.out
                      clear HA
                      simp only [verditerref06_Validate.l1] at H
                      by_cases c13 : 0 ≤ x5_1
                      · rw [if_pos c13] at H
                        have c13b0 : decide (0 ≤ x5_1) = true := decide_eq_true c13
                        clear c13
                        by_cases c14 : x5_1 < (l1.length : Int)
                        · rw [if_pos c14] at H
                          have c14b0 : decide (x5_1 < (l1.length : Int)) = true := decide_eq_true c14
                          clear c14
                          by_cases c15 : x6_3 < (((rd_T53 l1 x5_1).f0).length : Int)
                          · rw [if_pos c15] at H
                            have c15b0 : decide (x6_3 < (((rd_T53 l1 x5_1).f0).length : Int)) = true := decide_eq_true c15
                            clear c15
                            by_cases c16 : 0 ≤ x6_3
                            · rw [if_pos c16] at H
                              have c16b0 : decide (0 ≤ x6_3) = true := decide_eq_true c16
                              clear c16
                              replace H := Option.bind_eq_some_iff.mp H
                              obtain ⟨t193, A170, H⟩ := H
                              replace H : (if t193 = true then (some 6) else (verditerref06_Validate.l1 k3 a0 l1 x5_1 (wrap64 (x6_3 + 1)))) = some r := H
                              have A17 := Aside0.mk A170
                              clear A170
                              by_cases c18 : t193 = true
                              · subst c18
                                have H1 : (some 6) = some r := by rw [if_pos rfl] at H; exact H
                                clear H
                                have H := H1
                                clear H1
                                obtain rfl := Option.some.inj H
                                have p189 : 0 ≤ (x5_1 : Int) := of_decide_eq_true (by first | (with_reducible assumption) | assumption)
                                have q189 : x5_1 < (l1.length : Int) := of_decide_eq_true (by first | (with_reducible assumption) | assumption)
                                obtain ⟨ad189, A189_0, c189_0, A189_1, c189_1, e189, hx189_0, hx189_1, hl189_0, hi189_0, hl189_1, hi189_1⟩ := at_T53 HR1.out x5_1 p189 q189
                                cases e189
                                have HR189_0 := Aside0.mk hi189_0
                                have HC189_0 := Aside0.mk hl189_0
                                clear hi189_0 hl189_0
                                have HR189_1 := Aside0.mk hi189_1
                                have HC189_1 := Aside0.mk hl189_1
                                clear hi189_1 hl189_1
                                replace p189 := eq_true p189
                                replace q189 := eq_true q189
                                have p190 : 0 ≤ (x5_1 : Int) := of_decide_eq_true (by first | (with_reducible assumption) | assumption)
                                have q190 : x5_1 < (l1.length : Int) := of_decide_eq_true (by first | (with_reducible assumption) | assumption)
                                obtain ⟨ad190, A190_0, c190_0, A190_1, c190_1, e190, hx190_0, hx190_1, hl190_0, hi190_0, hl190_1, hi190_1⟩ := at_T53 HR1.out x5_1 p190 q190
                                obtain rfl : ad189 = ad190 := (by injection e190)
                                have HR190_0 := Aside0.mk hi190_0
                                have HC190_0 := Aside0.mk hl190_0
                                clear hi190_0 hl190_0
                                have HR190_1 := Aside0.mk hi190_1
                                have HC190_1 := Aside0.mk hl190_1
                                clear hi190_1 hl190_1
                                replace p190 := eq_true p190
                                replace q190 := eq_true q190
                                have ea_ := Option.some.inj (hx189_0.symm.trans hx190_0)
                                injection ea_ with ea_ en_ ec_
                                subst ea_
                                subst ec_
                                clear en_
                                have ea_ := Option.some.inj (hx189_1.symm.trans hx190_1)
                                injection ea_ with ea_ en_ ec_
                                subst ea_
                                subst ec_
                                clear en_
                                have p191 : 0 ≤ (x5_1 : Int) := of_decide_eq_true (by first | (with_reducible assumption) | assumption)
                                have q191 : x5_1 < (l1.length : Int) := of_decide_eq_true (by first | (with_reducible assumption) | assumption)
                                obtain ⟨ad191, A191_0, c191_0, A191_1, c191_1, e191, hx191_0, hx191_1, hl191_0, hi191_0, hl191_1, hi191_1⟩ := at_T53 HR1.out x5_1 p191 q191
                                obtain rfl : ad189 = ad191 := (by injection e191)
                                have HR191_0 := Aside0.mk hi191_0
                                have HC191_0 := Aside0.mk hl191_0
                                clear hi191_0 hl191_0
                                have HR191_1 := Aside0.mk hi191_1
                                have HC191_1 := Aside0.mk hl191_1
                                clear hi191_1 hl191_1
                                replace p191 := eq_true p191
                                replace q191 := eq_true q191
                                have ea_ := Option.some.inj (hx189_0.symm.trans hx191_0)
                                injection ea_ with ea_ en_ ec_
                                subst ea_
                                subst ec_
                                clear en_
                                have ea_ := Option.some.inj (hx189_1.symm.trans hx191_1)
                                injection ea_ with ea_ en_ ec_
                                subst ea_
                                subst ec_
                                clear en_
                                have p192 : 0 ≤ (x6_3 : Int) := of_decide_eq_true (by first | (with_reducible assumption) | assumption)
                                have q192 : x6_3 < (((rd_T53 l1 x5_1).f0).length : Int) := of_decide_eq_true (by first | (with_reducible assumption) | assumption)
                                obtain ⟨ad192, e192, hx192_0⟩ := Kd.at_int HR191_0.out x6_3 p192 q192
                                cases e192
                                replace p192 := eq_true p192
                                replace q192 := eq_true q192
                                go_wp2_with (first | (go_at_call 101; (with_reducible refine (verditerref06_has.calls k3 _ _ ((rd_T53 l1 x5_1).f1) (rd ((rd_T53 l1 x5_1).f0) x6_3) true _ ?side1 ?side2 A17.out).mono ?_); (case side1 => repeat (first | exact HR190_1.out | (with_reducible refine Kd.C_alloc ?_ _) | (with_reducible refine Kd.C_drewN ?_ _) | (with_reducible refine Kd.C_drew ?_))); (case side2 => exact HC190_1.out); rintro e w' ⟨rfl, ⟨nd, rfl⟩⟩; (try first | exact ⟨rfl, _, World.drewN_drewN _ _ _⟩ | exact ⟨rfl, _, Eq.trans (World.drewN_drewN _ _ _) (congrArg (World.drewN _) (Nat.add_assoc _ _ _))⟩)))
                                repeat (go_quiet (first | (go_at_call 101; (with_reducible refine (verditerref06_has.calls k3 _ _ ((rd_T53 l1 x5_1).f1) (rd ((rd_T53 l1 x5_1).f0) x6_3) true _ ?side1 ?side2 A17.out).mono ?_); (case side1 => repeat (first | exact HR190_1.out | (with_reducible refine Kd.C_alloc ?_ _) | (with_reducible refine Kd.C_drewN ?_ _) | (with_reducible refine Kd.C_drew ?_))); (case side2 => exact HC190_1.out); rintro e w' ⟨rfl, ⟨nd, rfl⟩⟩; (try first | exact ⟨rfl, _, World.drewN_drewN _ _ _⟩ | exact ⟨rfl, _, Eq.trans (World.drewN_drewN _ _ _) (congrArg (World.drewN _) (Nat.add_assoc _ _ _))⟩))); try go_wp2_with (first | (go_at_call 101; (with_reducible refine (verditerref06_has.calls k3 _ _ ((rd_T53 l1 x5_1).f1) (rd ((rd_T53 l1 x5_1).f0) x6_3) true _ ?side1 ?side2 A17.out).mono ?_); (case side1 => repeat (first | exact HR190_1.out | (with_reducible refine Kd.C_alloc ?_ _) | (with_reducible refine Kd.C_drewN ?_ _) | (with_reducible refine Kd.C_drew ?_))); (case side2 => exact HC190_1.out); rintro e w' ⟨rfl, ⟨nd, rfl⟩⟩; (try first | exact ⟨rfl, _, World.drewN_drewN _ _ _⟩ | exact ⟨rfl, _, Eq.trans (World.drewN_drewN _ _ _) (congrArg (World.drewN _) (Nat.add_assoc _ _ _))⟩))))
                                go_ret
                                exact ⟨by first | rfl | (simp; done) | (simp [*]; done), by repeat (first | exact Drawn0.refl _ | apply Drawn0.step)⟩
                              · replace c18 := Bool.eq_false_iff.mpr c18
                                subst c18
                                have H1 : (verditerref06_Validate.l1 k3 a0 l1 x5_1 (wrap64 (x6_3 + 1))) = some r := by rw [if_neg (show ¬ (false = true) by decide)] at H; exact H
                                clear H
                                have H := H1
                                clear H1
                                have H' := Aside0.mk H
                                clear H
                                have p189 : 0 ≤ (x5_1 : Int) := of_decide_eq_true (by first | (with_reducible assumption) | assumption)
                                have q189 : x5_1 < (l1.length : Int) := of_decide_eq_true (by first | (with_reducible assumption) | assumption)
                                obtain ⟨ad189, A189_0, c189_0, A189_1, c189_1, e189, hx189_0, hx189_1, hl189_0, hi189_0, hl189_1, hi189_1⟩ := at_T53 HR1.out x5_1 p189 q189
                                cases e189
                                have HR189_0 := Aside0.mk hi189_0
                                have HC189_0 := Aside0.mk hl189_0
                                clear hi189_0 hl189_0
                                have HR189_1 := Aside0.mk hi189_1
                                have HC189_1 := Aside0.mk hl189_1
                                clear hi189_1 hl189_1
                                replace p189 := eq_true p189
                                replace q189 := eq_true q189
                                have p190 : 0 ≤ (x5_1 : Int) := of_decide_eq_true (by first | (with_reducible assumption) | assumption)
                                have q190 : x5_1 < (l1.length : Int) := of_decide_eq_true (by first | (with_reducible assumption) | assumption)
                                obtain ⟨ad190, A190_0, c190_0, A190_1, c190_1, e190, hx190_0, hx190_1, hl190_0, hi190_0, hl190_1, hi190_1⟩ := at_T53 HR1.out x5_1 p190 q190
                                obtain rfl : ad189 = ad190 := (by injection e190)
                                have HR190_0 := Aside0.mk hi190_0
                                have HC190_0 := Aside0.mk hl190_0
                                clear hi190_0 hl190_0
                                have HR190_1 := Aside0.mk hi190_1
                                have HC190_1 := Aside0.mk hl190_1
                                clear hi190_1 hl190_1
                                replace p190 := eq_true p190
                                replace q190 := eq_true q190
                                have ea_ := Option.some.inj (hx189_0.symm.trans hx190_0)
                                injection ea_ with ea_ en_ ec_
                                subst ea_
                                subst ec_
                                clear en_
                                have ea_ := Option.some.inj (hx189_1.symm.trans hx190_1)
                                injection ea_ with ea_ en_ ec_
                                subst ea_
                                subst ec_
                                clear en_
                                have p191 : 0 ≤ (x5_1 : Int) := of_decide_eq_true (by first | (with_reducible assumption) | assumption)
                                have q191 : x5_1 < (l1.length : Int) := of_decide_eq_true (by first | (with_reducible assumption) | assumption)
                                obtain ⟨ad191, A191_0, c191_0, A191_1, c191_1, e191, hx191_0, hx191_1, hl191_0, hi191_0, hl191_1, hi191_1⟩ := at_T53 HR1.out x5_1 p191 q191
                                obtain rfl : ad189 = ad191 := (by injection e191)
                                have HR191_0 := Aside0.mk hi191_0
                                have HC191_0 := Aside0.mk hl191_0
                                clear hi191_0 hl191_0
                                have HR191_1 := Aside0.mk hi191_1
                                have HC191_1 := Aside0.mk hl191_1
                                clear hi191_1 hl191_1
                                replace p191 := eq_true p191
                                replace q191 := eq_true q191
                                have ea_ := Option.some.inj (hx189_0.symm.trans hx191_0)
                                injection ea_ with ea_ en_ ec_
                                subst ea_
                                subst ec_
                                clear en_
                                have ea_ := Option.some.inj (hx189_1.symm.trans hx191_1)
                                injection ea_ with ea_ en_ ec_
                                subst ea_
                                subst ec_
                                clear en_
                                have p192 : 0 ≤ (x6_3 : Int) := of_decide_eq_true (by first | (with_reducible assumption) | assumption)
                                have q192 : x6_3 < (((rd_T53 l1 x5_1).f0).length : Int) := of_decide_eq_true (by first | (with_reducible assumption) | assumption)
                                obtain ⟨ad192, e192, hx192_0⟩ := Kd.at_int HR191_0.out x6_3 p192 q192
                                cases e192
                                replace p192 := eq_true p192
                                replace q192 := eq_true q192
                                go_wp2_with (first | (go_at_call 101; (with_reducible refine (verditerref06_has.calls k3 _ _ ((rd_T53 l1 x5_1).f1) (rd ((rd_T53 l1 x5_1).f0) x6_3) false _ ?side1 ?side2 A17.out).mono ?_); (case side1 => repeat (first | exact HR190_1.out | (with_reducible refine Kd.C_alloc ?_ _) | (with_reducible refine Kd.C_drewN ?_ _) | (with_reducible refine Kd.C_drew ?_))); (case side2 => exact HC190_1.out); rintro e w' ⟨rfl, ⟨nd, rfl⟩⟩; (try first | exact ⟨rfl, _, World.drewN_drewN _ _ _⟩ | exact ⟨rfl, _, Eq.trans (World.drewN_drewN _ _ _) (congrArg (World.drewN _) (Nat.add_assoc _ _ _))⟩)))
                                repeat (go_quiet (first | (go_at_call 101; (with_reducible refine (verditerref06_has.calls k3 _ _ ((rd_T53 l1 x5_1).f1) (rd ((rd_T53 l1 x5_1).f0) x6_3) false _ ?side1 ?side2 A17.out).mono ?_); (case side1 => repeat (first | exact HR190_1.out | (with_reducible refine Kd.C_alloc ?_ _) | (with_reducible refine Kd.C_drewN ?_ _) | (with_reducible refine Kd.C_drew ?_))); (case side2 => exact HC190_1.out); rintro e w' ⟨rfl, ⟨nd, rfl⟩⟩; (try first | exact ⟨rfl, _, World.drewN_drewN _ _ _⟩ | exact ⟨rfl, _, Eq.trans (World.drewN_drewN _ _ _) (congrArg (World.drewN _) (Nat.add_assoc _ _ _))⟩))); try go_wp2_with (first | (go_at_call 101; (with_reducible refine (verditerref06_has.calls k3 _ _ ((rd_T53 l1 x5_1).f1) (rd ((rd_T53 l1 x5_1).f0) x6_3) false _ ?side1 ?side2 A17.out).mono ?_); (case side1 => repeat (first | exact HR190_1.out | (with_reducible refine Kd.C_alloc ?_ _) | (with_reducible refine Kd.C_drewN ?_ _) | (with_reducible refine Kd.C_drew ?_))); (case side2 => exact HC190_1.out); rintro e w' ⟨rfl, ⟨nd, rfl⟩⟩; (try first | exact ⟨rfl, _, World.drewN_drewN _ _ _⟩ | exact ⟨rfl, _, Eq.trans (World.drewN_drewN _ _ _) (congrArg (World.drewN _) (Nat.add_assoc _ _ _))⟩))))
                                go_roundg k3
                                case measure => have := HK1.out; have := HJ6.out; have := HK3.out; omega
                                case rel => exact ⟨(wrap64 (x6_3 + 1)), (by first | rfl | (simp; done) | (simp [*]; done)), H', ⟨by have := HK1.out; have := HJ6.out; have := HK3.out; omega⟩, by repeat (first | exact Drawn0.refl _ | apply Drawn0.step)⟩
                            · rw [if_neg c16] at H
                              exact absurd H (by simp)
                          · rw [if_neg c15] at H
                            have c15b0 : decide (x6_3 < (((rd_T53 l1 x5_1).f0).length : Int)) = false := decide_eq_false c15
                            clear c15
                            by_cases c19 : (((rd_T53 l1 x5_1).f0).length : Int) = (((rd_T53 l1 x5_1).f1).length : Int)
                            · rw [if_pos c19] at H
                              have c19b0 : ((((rd_T53 l1 x5_1).f0).length : Int) == (((rd_T53 l1 x5_1).f1).length : Int)) = true := beq_iff_eq.mpr c19
                              have c19b1 : ((((rd_T53 l1 x5_1).f0).length : Int) != (((rd_T53 l1 x5_1).f1).length : Int)) = false := bne_eq_false_iff_eq.mpr c19
                              have c19b2 : (((rd_T53 l1 x5_1).f0).length == ((rd_T53 l1 x5_1).f1).length) = true := by first | simpa using c19 | (simp at c19 ⊢; omega)
                              clear c19
                              have H' := Aside0.mk H
                              clear H
                              have p189 : 0 ≤ (x5_1 : Int) := of_decide_eq_true (by first | (with_reducible assumption) | assumption)
                              have q189 : x5_1 < (l1.length : Int) := of_decide_eq_true (by first | (with_reducible assumption) | assumption)
                              obtain ⟨ad189, A189_0, c189_0, A189_1, c189_1, e189, hx189_0, hx189_1, hl189_0, hi189_0, hl189_1, hi189_1⟩ := at_T53 HR1.out x5_1 p189 q189
                              cases e189
                              have HR189_0 := Aside0.mk hi189_0
                              have HC189_0 := Aside0.mk hl189_0
                              clear hi189_0 hl189_0
                              have HR189_1 := Aside0.mk hi189_1
                              have HC189_1 := Aside0.mk hl189_1
                              clear hi189_1 hl189_1
                              replace p189 := eq_true p189
                              replace q189 := eq_true q189
                              have p194 : 0 ≤ (x5_1 : Int) := of_decide_eq_true (by first | (with_reducible assumption) | assumption)
                              have q194 : x5_1 < (l1.length : Int) := of_decide_eq_true (by first | (with_reducible assumption) | assumption)
                              obtain ⟨ad194, A194_0, c194_0, A194_1, c194_1, e194, hx194_0, hx194_1, hl194_0, hi194_0, hl194_1, hi194_1⟩ := at_T53 HR1.out x5_1 p194 q194
                              obtain rfl : ad189 = ad194 := (by injection e194)
                              have HR194_0 := Aside0.mk hi194_0
                              have HC194_0 := Aside0.mk hl194_0
                              clear hi194_0 hl194_0
                              have HR194_1 := Aside0.mk hi194_1
                              have HC194_1 := Aside0.mk hl194_1
                              clear hi194_1 hl194_1
                              replace p194 := eq_true p194
                              replace q194 := eq_true q194
                              have ea_ := Option.some.inj (hx189_0.symm.trans hx194_0)
                              injection ea_ with ea_ en_ ec_
                              subst ea_
                              subst ec_
                              clear en_
                              have ea_ := Option.some.inj (hx189_1.symm.trans hx194_1)
                              injection ea_ with ea_ en_ ec_
                              subst ea_
                              subst ec_
                              clear en_
                              have p195 : 0 ≤ (x5_1 : Int) := of_decide_eq_true (by first | (with_reducible assumption) | assumption)
                              have q195 : x5_1 < (l1.length : Int) := of_decide_eq_true (by first | (with_reducible assumption) | assumption)
                              obtain ⟨ad195, A195_0, c195_0, A195_1, c195_1, e195, hx195_0, hx195_1, hl195_0, hi195_0, hl195_1, hi195_1⟩ := at_T53 HR1.out x5_1 p195 q195
                              obtain rfl : ad189 = ad195 := (by injection e195)
                              have HR195_0 := Aside0.mk hi195_0
                              have HC195_0 := Aside0.mk hl195_0
                              clear hi195_0 hl195_0
                              have HR195_1 := Aside0.mk hi195_1
                              have HC195_1 := Aside0.mk hl195_1
                              clear hi195_1 hl195_1
                              replace p195 := eq_true p195
                              replace q195 := eq_true q195
                              have ea_ := Option.some.inj (hx189_0.symm.trans hx195_0)
                              injection ea_ with ea_ en_ ec_
                              subst ea_
                              subst ec_
                              clear en_
                              have ea_ := Option.some.inj (hx189_1.symm.trans hx195_1)
                              injection ea_ with ea_ en_ ec_
                              subst ea_
                              subst ec_
                              clear en_
                              go_wp2
                              repeat (go_quiet (fail); try go_wp2)
                              go_roundg k3
                              case measure => have := HK1.out; have := HJ6.out; have := HK3.out; omega
                              case rel => exact ⟨(wrap64 (x5_1 + 1)), (by first | rfl | (simp; done) | (simp [*]; done)), H', ⟨by have := HK1.out; have := HJ6.out; have := HK3.out; omega⟩, by repeat (first | exact Drawn0.refl _ | apply Drawn0.step)⟩
                            · rw [if_neg c19] at H
                              have c19b0 : ((((rd_T53 l1 x5_1).f0).length : Int) == (((rd_T53 l1 x5_1).f1).length : Int)) = false := beq_eq_false_iff_ne.mpr c19
                              have c19b1 : ((((rd_T53 l1 x5_1).f0).length : Int) != (((rd_T53 l1 x5_1).f1).length : Int)) = true := bne_iff_ne.mpr c19
                              have c19b2 : (((rd_T53 l1 x5_1).f0).length == ((rd_T53 l1 x5_1).f1).length) = false := by first | simpa using c19 | (simp at c19 ⊢; omega)
                              obtain rfl := Option.some.inj H
                              have p189 : 0 ≤ (x5_1 : Int) := of_decide_eq_true (by first | (with_reducible assumption) | assumption)
                              have q189 : x5_1 < (l1.length : Int) := of_decide_eq_true (by first | (with_reducible assumption) | assumption)
                              obtain ⟨ad189, A189_0, c189_0, A189_1, c189_1, e189, hx189_0, hx189_1, hl189_0, hi189_0, hl189_1, hi189_1⟩ := at_T53 HR1.out x5_1 p189 q189
                              cases e189
                              have HR189_0 := Aside0.mk hi189_0
                              have HC189_0 := Aside0.mk hl189_0
                              clear hi189_0 hl189_0
                              have HR189_1 := Aside0.mk hi189_1
                              have HC189_1 := Aside0.mk hl189_1
                              clear hi189_1 hl189_1
                              replace p189 := eq_true p189
                              replace q189 := eq_true q189
                              have p194 : 0 ≤ (x5_1 : Int) := of_decide_eq_true (by first | (with_reducible assumption) | assumption)
                              have q194 : x5_1 < (l1.length : Int) := of_decide_eq_true (by first | (with_reducible assumption) | assumption)
                              obtain ⟨ad194, A194_0, c194_0, A194_1, c194_1, e194, hx194_0, hx194_1, hl194_0, hi194_0, hl194_1, hi194_1⟩ := at_T53 HR1.out x5_1 p194 q194
                              obtain rfl : ad189 = ad194 := (by injection e194)
                              have HR194_0 := Aside0.mk hi194_0
                              have HC194_0 := Aside0.mk hl194_0
                              clear hi194_0 hl194_0
                              have HR194_1 := Aside0.mk hi194_1
                              have HC194_1 := Aside0.mk hl194_1
                              clear hi194_1 hl194_1
                              replace p194 := eq_true p194
                              replace q194 := eq_true q194
                              have ea_ := Option.some.inj (hx189_0.symm.trans hx194_0)
                              injection ea_ with ea_ en_ ec_
                              subst ea_
                              subst ec_
                              clear en_
                              have ea_ := Option.some.inj (hx189_1.symm.trans hx194_1)
                              injection ea_ with ea_ en_ ec_
                              subst ea_
                              subst ec_
                              clear en_
                              have p195 : 0 ≤ (x5_1 : Int) := of_decide_eq_true (by first | (with_reducible assumption) | assumption)
                              have q195 : x5_1 < (l1.length : Int) := of_decide_eq_true (by first | (with_reducible assumption) | assumption)
                              obtain ⟨ad195, A195_0, c195_0, A195_1, c195_1, e195, hx195_0, hx195_1, hl195_0, hi195_0, hl195_1, hi195_1⟩ := at_T53 HR1.out x5_1 p195 q195
                              obtain rfl : ad189 = ad195 := (by injection e195)
                              have HR195_0 := Aside0.mk hi195_0
                              have HC195_0 := Aside0.mk hl195_0
                              clear hi195_0 hl195_0
                              have HR195_1 := Aside0.mk hi195_1
                              have HC195_1 := Aside0.mk hl195_1
                              clear hi195_1 hl195_1
                              replace p195 := eq_true p195
                              replace q195 := eq_true q195
                              have ea_ := Option.some.inj (hx189_0.symm.trans hx195_0)
                              injection ea_ with ea_ en_ ec_
                              subst ea_
                              subst ec_
                              clear en_
                              have ea_ := Option.some.inj (hx189_1.symm.trans hx195_1)
                              injection ea_ with ea_ en_ ec_
                              subst ea_
                              subst ec_
                              clear en_
                              go_wp2
                              repeat (go_quiet (fail); try go_wp2)
                              go_ret
                              exact ⟨by first | rfl | (simp; done) | (simp [*]; done), by repeat (first | exact Drawn0.refl _ | apply Drawn0.step)⟩
                        · rw [if_neg c14] at H
                          exact absurd H (by simp)
                      · rw [if_neg c13] at H
                        exact absurd H (by simp)
          · rw [if_neg c6] at H
            have c6b0 : decide (x5_1 < (l1.length : Int)) = false := decide_eq_false c6
            clear c6
            obtain rfl := Option.some.inj H
            go_wp2
            repeat (go_quiet (fail); try go_wp2)
            go_ret
            exact ⟨by first | rfl | (simp; done) | (simp [*]; done), by repeat (first | exact Drawn0.refl _ | apply Drawn0.step)⟩
  · replace c4 := Bool.eq_false_iff.mpr c4
    subst c4
    have H1 : (some 1) = some r := by rw [if_neg (show ¬ (false = true) by decide)] at H; exact H
    clear H
    have H := H1
    clear H1
    obtain rfl := Option.some.inj H
    go_enter Try.func59, Try.ntmps59
    go_wp2_with (first | (go_at_call 82; (with_reducible refine (verditerref06_within.calls a0 1 13 false _ A3.out).mono ?_); rintro e w' ⟨rfl, ⟨nd, rfl⟩⟩; (try first | exact ⟨rfl, _, World.drewN_drewN _ _ _⟩ | exact ⟨rfl, _, Eq.trans (World.drewN_drewN _ _ _) (congrArg (World.drewN _) (Nat.add_assoc _ _ _))⟩)))
    repeat (go_quiet (first | (go_at_call 82; (with_reducible refine (verditerref06_within.calls a0 1 13 false _ A3.out).mono ?_); rintro e w' ⟨rfl, ⟨nd, rfl⟩⟩; (try first | exact ⟨rfl, _, World.drewN_drewN _ _ _⟩ | exact ⟨rfl, _, Eq.trans (World.drewN_drewN _ _ _) (congrArg (World.drewN _) (Nat.add_assoc _ _ _))⟩))); try go_wp2_with (first | (go_at_call 82; (with_reducible refine (verditerref06_within.calls a0 1 13 false _ A3.out).mono ?_); rintro e w' ⟨rfl, ⟨nd, rfl⟩⟩; (try first | exact ⟨rfl, _, World.drewN_drewN _ _ _⟩ | exact ⟨rfl, _, Eq.trans (World.drewN_drewN _ _ _) (congrArg (World.drewN _) (Nat.add_assoc _ _ _))⟩))))
    go_ret
    exact ⟨by first | rfl | (simp; done) | (simp [*]; done), by repeat (first | exact Drawn0.refl _ | apply Drawn0.step)⟩

end Go.Proofs.Ytdbeochifofdoaa.X
end

section
-- Written by a program of this session (wip/hook.py, which runs the kit's print.py with contracts proved by hand). Not trusted: Lean checks it.
namespace Go.Proofs.Ytdbeochifofdoaa.X
open Go.RowKit Go.Proofs.YtdbeochifofdoaaW.PrintWords Go.Proofs.YtdbeochifofdoaaW.PrintLast Go.Proofs.YtdbeochifofdoaaW.PrintMore
attribute [local go_sem] max2_int min2_int max_two min_two max_three min_three max_four min_four   -- for this text's walks alone
set_option linter.unusedVariables false
set_option linter.unusedSimpArgs false

/-! ### verditerref06_renamed: function 110 -/
mutual
def verditerref06_renamed.l0 : Nat → List Int → List Int → List Int → Int → Option (List Int)
  | 0, _, _, _, _ => none
  | k + 1, x0, x1, x5, x6 => if x6 < (x1.length : Int) then (verditerref06_renamed.l1 k x0 x1 x5 x6 0) else (some x5)
def verditerref06_renamed.l1 : Nat → List Int → List Int → List Int → Int → Int → Option (List Int)
  | 0, _, _, _, _, _ => none
  | k + 1, x0, x1, x5, x6, x7 => if x7 < (x0.length : Int) then (if 0 ≤ x7 then (if 0 ≤ (rd x0 x7) then (if (rd x0 x7) < (x1.length : Int) then (if (rd x1 (rd x0 x7)) = x6 then (if x5.length < 17592186044416 then (verditerref06_renamed.l1 k x0 x1 (x5 ++ [x6]) x6 (wrap64 (x7 + 1))) else (none)) else (verditerref06_renamed.l1 k x0 x1 x5 x6 (wrap64 (x7 + 1)))) else (none)) else (none)) else (none)) else (verditerref06_renamed.l0 k x0 x1 x5 (wrap64 (x6 + 1)))
end
def verditerref06_renamed.f (k : Nat) (l0 : List Int) (l1 : List Int) : Option (List Int) := verditerref06_renamed.l0 k l0 l1 ([] : List Int) 0
set_option maxHeartbeats 8000000 in
set_option maxRecDepth 100000 in
theorem verditerref06_renamed.calls (k : Nat) (A0 : Option Addr) (c0 : Nat) (l0 : List Int) (A1 : Option Addr) (c1 : Nat) (l1 : List Int) (r : List Int) (w : World) (hr0 : Kd.C (Kd.int .i64) w A0 l0.length l0) (hc0 : l0.length ≤ c0) (hr1 : Kd.C (Kd.int .i64) w A1 l1.length l1) (hc1 : l1.length ≤ c1) (h : verditerref06_renamed.f k l0 l1 = some r) :
    Calls Try.prog 110 #[.slice A0 l0.length c0, .slice A1 l1.length c1] w fun e w' => ∃ v0_ : Value, e = .returned (v0_) ∧ Kd.R (Kd.int .i64) 3 w' w.heap.size (fun _ => True) v0_ r ∧ Below w.heap.size w w' := by
  have HR0 := Aside0.mk hr0
  have HC0 := Aside0.mk hc0
  clear hr0 hc0
  have HR1 := Aside0.mk hr1
  have HC1 := Aside0.mk hc1
  clear hr1 hc1
  have HB := Aside0.mk (Below.refl w.heap.size w)
  have H : (verditerref06_renamed.l0 k l0 l1 ([] : List Int) 0) = some r := h
  clear h
  have H' := Aside0.mk H
  clear H
  go_enter Try.func110, Try.ntmps110
  go_wp2
  go_loopg [5, 6] k (fun kq v5 v6 w' => ∃ (x5_1 : List Int) (x6_1 : Int), v6 = .int .i64 x6_1 ∧ Aside0 (verditerref06_renamed.l0 kq l0 l1 x5_1 x6_1 = some r) ∧ Aside0 (kq ≤ k) ∧ Aside0 (Kd.R (Kd.int .i64) 3 w' w.heap.size (fun _ => True) v5 x5_1) ∧ Aside0 (Below w.heap.size w w'))
  case atStart => exact ⟨(([] : List Int)), (0), (by first | rfl | (simp; done) | (simp [*]; done)), H', ⟨Nat.le_refl _⟩, ⟨by first | exact Kd.R_nil _ _ _ _ _ | exact Kd.N_nil _ _ _ _ _ | exact Kd.V_nil _ _ _ _ _ | exact Kd.Q_nil _ _ _ _ _ | exact Kd.S_nil _ _ _ _ _⟩, ⟨by repeat (first | (with_reducible first | exact HB.out | apply below_alloc | apply pw_below_drewN | apply below_drew1) | exact HB.out)⟩⟩
  case round =>
    clear H'
    try clear c1
    try clear p2
    obtain ⟨x5_1, x6_1, rfl, HA, HK1, HO_5, HB⟩ := hrel
    cases gk with
    | zero => exact absurd HA.out (by simp [verditerref06_renamed.l0])
    | succ k1 =>
      have H := HA.out
      clear HA
      simp only [verditerref06_renamed.l0] at H
      by_cases c3 : x6_1 < (l1.length : Int)
      · rw [if_pos c3] at H
        have c3b0 : decide (x6_1 < (l1.length : Int)) = true := decide_eq_true c3
        clear c3
        have H' := Aside0.mk H
        clear H
        go_wp2
        go_loopg [5, 7] k1 (fun kq v5 v7 w' => ∃ (x5_2 : List Int) (x7_2 : Int), v7 = .int .i64 x7_2 ∧ Aside0 (verditerref06_renamed.l1 kq l0 l1 x5_2 x6_1 x7_2 = some r) ∧ Aside0 (kq ≤ k1) ∧ Aside0 (Kd.R (Kd.int .i64) 3 w' w.heap.size (fun _ => True) v5 x5_2) ∧ Aside0 (Below w.heap.size w w'))
        case atStart => exact ⟨(x5_1), (0), (by first | rfl | (simp; done) | (simp [*]; done)), H', ⟨Nat.le_refl _⟩, ⟨by (with_reducible repeat (first | apply Kd.R_alloc | apply Kd.R_drewN | apply Kd.R_drew)); exact HO_5.out⟩, ⟨by repeat (first | (with_reducible first | exact HB.out | apply below_alloc | apply pw_below_drewN | apply below_drew1) | exact HB.out)⟩⟩
        case round =>
          clear H'
          try clear c1
          try clear p2
          try clear c3
          try clear c3b0
          try clear p2
          obtain ⟨x5_2, x7_2, rfl, HA, HK2, HO_5, HB⟩ := hrel
          cases gk with
          | zero => exact absurd HA.out (by simp [verditerref06_renamed.l1])
          | succ k2 =>
            have H := HA.out
            clear HA
            simp only [verditerref06_renamed.l1] at H
            by_cases c4 : x7_2 < (l0.length : Int)
            · rw [if_pos c4] at H
              have c4b0 : decide (x7_2 < (l0.length : Int)) = true := decide_eq_true c4
              clear c4
              by_cases c5 : 0 ≤ x7_2
              · rw [if_pos c5] at H
                have c5b0 : decide (0 ≤ x7_2) = true := decide_eq_true c5
                clear c5
                by_cases c6 : 0 ≤ (rd l0 x7_2)
                · rw [if_pos c6] at H
                  have c6b0 : decide (0 ≤ (rd l0 x7_2)) = true := decide_eq_true c6
                  clear c6
                  by_cases c7 : (rd l0 x7_2) < (l1.length : Int)
                  · rw [if_pos c7] at H
                    have c7b0 : decide ((rd l0 x7_2) < (l1.length : Int)) = true := decide_eq_true c7
                    clear c7
                    by_cases c8 : (rd l1 (rd l0 x7_2)) = x6_1
                    · rw [if_pos c8] at H
                      have c8b0 : ((rd l1 (rd l0 x7_2)) == x6_1) = true := beq_iff_eq.mpr c8
                      have c8b1 : ((rd l1 (rd l0 x7_2)) != x6_1) = false := bne_eq_false_iff_eq.mpr c8
                      clear c8
                      by_cases c9 : x5_2.length < 17592186044416
                      · rw [if_pos c9] at H
                        have LMc9 := Aside0.mk c9
                        clear c9
                        obtain ⟨y691, hy691⟩ : ∃ y_ : List Int, y_ = (x5_2 ++ [x6_1]) := ⟨_, rfl⟩
                        replace H : (verditerref06_renamed.l1 k2 l0 l1 y691 x6_1 (wrap64 (x7_2 + 1))) = some r := by first | (rw [hy691]; with_reducible exact H) | (have H2_ := (Option.bind_some _ _).symm.trans H; rw [hy691]; with_reducible exact H2_) | (have H2_ := (Option.bind_some _ _).symm.trans H; with_reducible exact H2_) | with_reducible exact H | (rw [hy691]; exact H) | exact H
                        have Ny691 := Aside0.mk hy691
                        clear hy691
                        have H' := Aside0.mk H
                        clear H
                        have p689 : 0 ≤ (x7_2 : Int) := of_decide_eq_true (by first | (with_reducible assumption) | assumption)
                        have q689 : x7_2 < (l0.length : Int) := of_decide_eq_true (by first | (with_reducible assumption) | assumption)
                        obtain ⟨ad689, e689, hx689_0⟩ := Kd.at_int HR0.out x7_2 p689 q689
                        cases e689
                        replace hx689_0 := (HB.out.cell (World.block_lt_of_cell? w _ hx689_0)).trans hx689_0
                        replace p689 := eq_true p689
                        replace q689 := eq_true q689
                        have p690 : 0 ≤ ((rd l0 x7_2) : Int) := of_decide_eq_true (by first | (with_reducible assumption) | assumption)
                        have q690 : (rd l0 x7_2) < (l1.length : Int) := of_decide_eq_true (by first | (with_reducible assumption) | assumption)
                        obtain ⟨ad690, e690, hx690_0⟩ := Kd.at_int HR1.out (rd l0 x7_2) p690 q690
                        cases e690
                        replace hx690_0 := (HB.out.cell (World.block_lt_of_cell? w _ hx690_0)).trans hx690_0
                        replace p690 := eq_true p690
                        replace q690 := eq_true q690
                        go_wp2_with (first | ((with_reducible refine gate_builtin (b := .append) (xs := #[.tmp 29, .tmp 31]) rfl ?_); at_builtin; refine Kd.R_append (Kd.int .i64) (w0 := w) w.heap.size rfl (.tmp 29) (.tmp 31) 43 3 (.int .i64 0) 8 rfl Try.underlying43 info3 rfl (by decide) (by omega) u5 x5_2 x6_1 [.int .i64 x6_1] (fun _ => True) (fun _ => False) rfl rfl ?aP (fun _ hk => hk.elim) ?aF ?aO ?aB ?aS ?aL ?_; (case aP => exact rfl); (case aB => exact (by repeat (first | (with_reducible first | exact HB.out | apply below_alloc | apply pw_below_drewN | apply below_drew1) | exact HB.out))); (case aF => exact (fun _ _ => trivial)); (case aO => exact (by (with_reducible repeat (first | apply Kd.R_alloc | apply Kd.R_drewN | apply Kd.R_drew)); exact HO_5.out)); (case aS => exact (below_size (by repeat (first | (with_reducible first | exact HB.out | apply below_alloc | apply pw_below_drewN | apply below_drew1) | exact HB.out)))); (case aL => have := LMc9.out; omega); intro v692 w10 ho hb hg hat; rw [← Ny691.out] at ho; have n0_ := Aside0.mk (hb); have n1_ := Aside0.mk (ho); clear HB; clear HO_5; have HB := n0_; have HO693 := n1_; clear n0_ n1_; clear ho hb hg hat))
                        go_roundg k2
                        case measure => have := HK1.out; have := HK2.out; omega
                        case rel => exact ⟨(y691), (wrap64 (x7_2 + 1)), (by first | rfl | (simp; done) | (simp [*]; done)), H', ⟨by have := HK1.out; have := HK2.out; omega⟩, ⟨by (with_reducible repeat (first | apply Kd.R_alloc | apply Kd.R_drewN | apply Kd.R_drew)); exact HO693.out⟩, ⟨by repeat (first | (with_reducible first | exact HB.out | apply below_alloc | apply pw_below_drewN | apply below_drew1) | exact HB.out)⟩⟩
                      · rw [if_neg c9] at H
                        exact absurd H (by simp)
                    · rw [if_neg c8] at H
                      have c8b0 : ((rd l1 (rd l0 x7_2)) == x6_1) = false := beq_eq_false_iff_ne.mpr c8
                      have c8b1 : ((rd l1 (rd l0 x7_2)) != x6_1) = true := bne_iff_ne.mpr c8
                      have H' := Aside0.mk H
                      clear H
                      have p689 : 0 ≤ (x7_2 : Int) := of_decide_eq_true (by first | (with_reducible assumption) | assumption)
                      have q689 : x7_2 < (l0.length : Int) := of_decide_eq_true (by first | (with_reducible assumption) | assumption)
                      obtain ⟨ad689, e689, hx689_0⟩ := Kd.at_int HR0.out x7_2 p689 q689
                      cases e689
                      replace hx689_0 := (HB.out.cell (World.block_lt_of_cell? w _ hx689_0)).trans hx689_0
                      replace p689 := eq_true p689
                      replace q689 := eq_true q689
                      have p690 : 0 ≤ ((rd l0 x7_2) : Int) := of_decide_eq_true (by first | (with_reducible assumption) | assumption)
                      have q690 : (rd l0 x7_2) < (l1.length : Int) := of_decide_eq_true (by first | (with_reducible assumption) | assumption)
                      obtain ⟨ad690, e690, hx690_0⟩ := Kd.at_int HR1.out (rd l0 x7_2) p690 q690
                      cases e690
                      replace hx690_0 := (HB.out.cell (World.block_lt_of_cell? w _ hx690_0)).trans hx690_0
                      replace p690 := eq_true p690
                      replace q690 := eq_true q690
                      go_wp2
                      go_roundg k2
                      case measure => have := HK1.out; have := HK2.out; omega
                      case rel => exact ⟨(x5_2), (wrap64 (x7_2 + 1)), (by first | rfl | (simp; done) | (simp [*]; done)), H', ⟨by have := HK1.out; have := HK2.out; omega⟩, ⟨by (with_reducible repeat (first | apply Kd.R_alloc | apply Kd.R_drewN | apply Kd.R_drew)); exact HO_5.out⟩, ⟨by repeat (first | (with_reducible first | exact HB.out | apply below_alloc | apply pw_below_drewN | apply below_drew1) | exact HB.out)⟩⟩
                  · rw [if_neg c7] at H
                    exact absurd H (by simp)
                · rw [if_neg c6] at H
                  exact absurd H (by simp)
              · rw [if_neg c5] at H
                exact absurd H (by simp)
            · rw [if_neg c4] at H
              have c4b0 : decide (x7_2 < (l0.length : Int)) = false := decide_eq_false c4
              clear c4
              have H' := Aside0.mk H
              clear H
              go_wp2
              go_roundg k2
              case measure => have := HK1.out; have := HK2.out; omega
              case rel => exact ⟨(x5_2), (wrap64 (x6_1 + 1)), (by first | rfl | (simp; done) | (simp [*]; done)), H', ⟨by have := HK1.out; have := HK2.out; omega⟩, ⟨by (with_reducible repeat (first | apply Kd.R_alloc | apply Kd.R_drewN | apply Kd.R_drew)); exact HO_5.out⟩, ⟨by repeat (first | (with_reducible first | exact HB.out | apply below_alloc | apply pw_below_drewN | apply below_drew1) | exact HB.out)⟩⟩
      · rw [if_neg c3] at H
        have c3b0 : decide (x6_1 < (l1.length : Int)) = false := decide_eq_false c3
        clear c3
        obtain rfl := Option.some.inj H
        go_wp2
        go_ret
        exact ⟨_, by first | rfl | (simp [errW_none, errW_some] <;> rfl) | (simp [*, errW_none, errW_some] <;> rfl), by (with_reducible repeat (first | apply Kd.R_alloc | apply Kd.R_drewN | apply Kd.R_drew)); exact HO_5.out, by repeat (first | (with_reducible first | exact HB.out | apply below_alloc | apply pw_below_drewN | apply below_drew1) | exact HB.out)⟩

end Go.Proofs.Ytdbeochifofdoaa.X
end

section
-- Written by a program of this session (wip/hook.py, which runs the kit's print.py with contracts proved by hand). Not trusted: Lean checks it.
namespace Go.Proofs.Ytdbeochifofdoaa.X
open Go.RowKit Go.Proofs.YtdbeochifofdoaaW.PrintWords Go.Proofs.YtdbeochifofdoaaW.PrintLast Go.Proofs.YtdbeochifofdoaaW.PrintMore
attribute [local go_sem] max2_int min2_int max_two min_two max_three min_three max_four min_four   -- for this text's walks alone
set_option linter.unusedVariables false
set_option linter.unusedSimpArgs false

/-! ### verditerref06_Rename: function 75 -/
mutual
def verditerref06_Rename.l0 : Nat → Int → List (S53) → List Int → Int → Option ((List (S53)) × Int)
  | 0, _, _, _, _ => none
  | k + 1, x0, x1, x2, x9 => if x9 < x0 then ((verditerref06_has.f k x2 x9).bind fun t695 => (if t695 = true then (verditerref06_Rename.l0 k x0 x1 x2 (wrap64 (x9 + 1))) else (some (([] : List (S53)), 1)))) else (verditerref06_Rename.l1 k x1 x2 ([] : List (S53)) 0)
def verditerref06_Rename.l1 : Nat → List (S53) → List Int → List (S53) → Int → Option ((List (S53)) × Int)
  | 0, _, _, _, _ => none
  | k + 1, x1, x2, x10, x11 => if x11 < (x1.length : Int) then (if 0 ≤ x11 then ((verditerref06_renamed.f k ((rd_T53 x1 x11).f0) x2).bind fun t697 => ((verditerref06_renamed.f k ((rd_T53 x1 x11).f1) x2).bind fun t701 => (if x10.length < 2932031007402 then (verditerref06_Rename.l1 k x1 x2 (x10 ++ [(⟨t697, t701⟩ : S53)]) (wrap64 (x11 + 1))) else (none)))) else (none)) else (some (x10, 0))
end
def verditerref06_Rename.f (k : Nat) (a0 : Int) (l1 : List (S53)) (l2 : List Int) : Option ((List (S53)) × Int) := (verditerref06_Validate.f k a0 l1).bind fun t694 => (if t694 = 0 then (if (l2.length : Int) = a0 then (verditerref06_Rename.l0 k a0 l1 l2 0) else (some (([] : List (S53)), 1))) else (some (([] : List (S53)), t694)))
def verditerref06_Rename.T15 : Bool × List (List Nat × List Nat) := (true, [([], []), ([], []), ([], []), ([1, 2], [1, 2]), ([3], [3]), ([4], [4]), ([], []), ([5, 6], [5, 6]), ([], []), ([], []), ([8, 9], [8, 9]), ([10], [10]), ([11], [11]), ([], []), ([12, 13, 7], [12, 13]), ([7, 14], [7, 14]), ([15], [15]), ([0, 16, 14], [0, 16]), ([17, 17, 0, 1, 2, 3, 4, 5, 6, 7, 8, 9, 10, 11, 12, 13, 14, 15, 16, 17], [0, 17])])
def verditerref06_Rename.B15 : List Nat := [0, 0, 0, 6, 14, 30, 0, 126, 0, 0, 768, 1792, 3840, 0, 16382, 32766, 65534, 131071, 262143]
theorem verditerref06_Rename.tab15 : rtab .any (opsOf Try.f75 15) = verditerref06_Rename.T15 := by kernel_rfl
theorem verditerref06_Rename.bits15 : waitsOk verditerref06_Rename.T15.2 verditerref06_Rename.B15 = true := by kernel_rfl
set_option maxHeartbeats 8000000 in
set_option maxRecDepth 100000 in
theorem verditerref06_Rename.calls (k : Nat) (a0 : Int) (A1 : Option Addr) (c1 : Nat) (l1 : List (S53)) (A2 : Option Addr) (c2 : Nat) (l2 : List Int) (r1 : List (S53)) (r2 : Int) (w : World) (hr1 : Kd.C k53 w A1 l1.length l1) (hc1 : l1.length ≤ c1) (hr2 : Kd.C (Kd.int .i64) w A2 l2.length l2) (hc2 : l2.length ≤ c2) (h : verditerref06_Rename.f k a0 l1 l2 = some (r1, r2)) :
    Calls Try.prog 75 #[.int .i64 a0, .slice A1 l1.length c1, .slice A2 l2.length c2] w fun e w' => ∃ v0_ : Value, e = .returned (.tuple #[v0_, .int .i64 r2]) ∧ Kd.S k53 53 w' w.heap.size (fun _ => True) v0_ r1 ∧ Below w.heap.size w w' := by
  have hu53 := Try.underlying53
  have HR1 := Aside0.mk hr1
  have HC1 := Aside0.mk hc1
  clear hr1 hc1
  have HR2 := Aside0.mk hr2
  have HC2 := Aside0.mk hc2
  clear hr2 hc2
  have HB := Aside0.mk (Below.refl w.heap.size w)
  have H : ((verditerref06_Validate.f k a0 l1).bind fun t694 => (if t694 = 0 then (if (l2.length : Int) = a0 then (verditerref06_Rename.l0 k a0 l1 l2 0) else (some (([] : List (S53)), 1))) else (some (([] : List (S53)), t694)))) = some (r1, r2) := h
  clear h
  replace H := Option.bind_eq_some_iff.mp H
  obtain ⟨t694, A40, H⟩ := H
  replace H : (if t694 = 0 then (if (l2.length : Int) = a0 then (verditerref06_Rename.l0 k a0 l1 l2 0) else (some (([] : List (S53)), 1))) else (some (([] : List (S53)), t694))) = some (r1, r2) := H
  have A4 := Aside0.mk A40
  clear A40
  by_cases c5 : t694 = 0
  · rw [if_pos c5] at H
    have c5b0 : (t694 == 0) = true := beq_iff_eq.mpr c5
    have c5b1 : (t694 != 0) = false := bne_eq_false_iff_eq.mpr c5
    clear c5
    by_cases c6 : (l2.length : Int) = a0
    · rw [if_pos c6] at H
      have c6b0 : ((l2.length : Int) == a0) = true := beq_iff_eq.mpr c6
      have c6b1 : ((l2.length : Int) != a0) = false := bne_eq_false_iff_eq.mpr c6
      clear c6
      have H' := Aside0.mk H
      clear H
      go_enter Try.func75, Try.ntmps75
      go_wp2_with (first | ((with_reducible refine gate_callee (f := 59) rfl ?_); refine goesL_ (some 14) rfl rfl Try.func59 (by kernel_rfl) rfl #[.int .i64 a0, .slice A1 l1.length c1] rfl (by (try simp only [List.map_toArray, List.map_cons, List.map_nil]); first | done | rfl | (simp only [List.length_drop, List.length_take]; rfl)) ?_; (with_reducible refine (verditerref06_Validate.calls k a0 _ _ l1 t694 _ ?side1 ?side2 A4.out).mono ?_); (case side1 => repeat (first | exact HR1.out | (with_reducible refine Kd.C_alloc ?_ _) | (with_reducible refine Kd.C_drewN ?_ _) | (with_reducible refine Kd.C_drew ?_))); (case side2 => exact HC1.out); rintro e w' ⟨rfl, ⟨nd, rfl⟩⟩; refine ⟨_, rfl, ?_⟩))
      go_loopg [9] k (fun kq v9 w' => ∃ (x9_1 : Int), v9 = .int .i64 x9_1 ∧ Aside0 (verditerref06_Rename.l0 kq a0 l1 l2 x9_1 = some (r1, r2)) ∧ Aside0 (kq ≤ k) ∧ Aside0 (Below w.heap.size w w'))
      case atStart => exact ⟨(0), (by first | rfl | (simp; done) | (simp [*]; done)), H', ⟨Nat.le_refl _⟩, ⟨by repeat (first | (with_reducible first | exact HB.out | apply below_alloc | apply pw_below_drewN | apply below_drew1) | exact HB.out)⟩⟩
      case round =>
        clear H'
        try clear c1
        try clear c2
        try clear p2
        try clear c5
        try clear c5b0
        try clear c5b1
        try clear c6
        try clear c6b0
        try clear c6b1
        obtain ⟨x9_1, rfl, HA, HK1, HB⟩ := hrel
        cases gk with
        | zero => exact absurd HA.out (by simp [verditerref06_Rename.l0])
        | succ k1 =>
          have H := HA.out
          clear HA
          simp only [verditerref06_Rename.l0] at H
          by_cases c7 : x9_1 < a0
          · rw [if_pos c7] at H
            have c7b0 : decide (x9_1 < a0) = true := decide_eq_true c7
            clear c7
            replace H := Option.bind_eq_some_iff.mp H
            obtain ⟨t695, A80, H⟩ := H
            replace H : (if t695 = true then (verditerref06_Rename.l0 k1 a0 l1 l2 (wrap64 (x9_1 + 1))) else (some (([] : List (S53)), 1))) = some (r1, r2) := H
            have A8 := Aside0.mk A80
            clear A80
            by_cases c9 : t695 = true
            · subst c9
              have H1 : (verditerref06_Rename.l0 k1 a0 l1 l2 (wrap64 (x9_1 + 1))) = some (r1, r2) := by rw [if_pos rfl] at H; exact H
              clear H
              have H := H1
              clear H1
              have H' := Aside0.mk H
              clear H
              go_wp2_with (first | ((with_reducible refine gate_callee (f := 101) rfl ?_); refine goesL_ (some 29) rfl rfl Try.func101 (by kernel_rfl) rfl #[.slice A2 l2.length c2, .int .i64 x9_1] rfl (by (try simp only [List.map_toArray, List.map_cons, List.map_nil]); first | done | rfl | (simp only [List.length_drop, List.length_take]; rfl)) ?_; (with_reducible refine (verditerref06_has.calls k1 _ _ l2 x9_1 true _ ?side1 ?side2 A8.out).mono ?_); (case side1 => repeat (first | exact (Kd.C_below HR2.out HB.out) | (with_reducible refine Kd.C_alloc ?_ _) | (with_reducible refine Kd.C_drewN ?_ _) | (with_reducible refine Kd.C_drew ?_))); (case side2 => exact HC2.out); rintro e w' ⟨rfl, ⟨nd, rfl⟩⟩; refine ⟨_, rfl, ?_⟩))
              go_roundg k1
              case measure => have := HK1.out; omega
              case rel => exact ⟨(wrap64 (x9_1 + 1)), (by first | rfl | (simp; done) | (simp [*]; done)), H', ⟨by have := HK1.out; omega⟩, ⟨by repeat (first | (with_reducible first | exact HB.out | apply below_alloc | apply pw_below_drewN | apply below_drew1) | exact HB.out)⟩⟩
            · replace c9 := Bool.eq_false_iff.mpr c9
              subst c9
              have H1 : (some (([] : List (S53)), 1)) = some (r1, r2) := by rw [if_neg (show ¬ (false = true) by decide)] at H; exact H
              clear H
              have H := H1
              clear H1
              simp only [Option.some.injEq, Prod.mk.injEq] at H
              obtain ⟨rfl, rfl⟩ := H
              go_wp2_with (first | ((with_reducible refine gate_callee (f := 101) rfl ?_); refine goesL_ (some 29) rfl rfl Try.func101 (by kernel_rfl) rfl #[.slice A2 l2.length c2, .int .i64 x9_1] rfl (by (try simp only [List.map_toArray, List.map_cons, List.map_nil]); first | done | rfl | (simp only [List.length_drop, List.length_take]; rfl)) ?_; (with_reducible refine (verditerref06_has.calls k1 _ _ l2 x9_1 false _ ?side1 ?side2 A8.out).mono ?_); (case side1 => repeat (first | exact (Kd.C_below HR2.out HB.out) | (with_reducible refine Kd.C_alloc ?_ _) | (with_reducible refine Kd.C_drewN ?_ _) | (with_reducible refine Kd.C_drew ?_))); (case side2 => exact HC2.out); rintro e w' ⟨rfl, ⟨nd, rfl⟩⟩; refine ⟨_, rfl, ?_⟩))
              go_ret2
              exact ⟨_, by first | rfl | (simp [errW_none, errW_some] <;> rfl) | (simp [*, errW_none, errW_some] <;> rfl), by first | exact Kd.S_nil _ _ _ _ _ | exact Kd.N_nil _ _ _ _ _ | exact Kd.V_nil _ _ _ _ _ | exact Kd.Q_nil _ _ _ _ _ | exact Kd.R_nil _ _ _ _ _, by repeat (first | (with_reducible first | exact HB.out | apply below_alloc | apply pw_below_drewN | apply below_drew1) | exact HB.out)⟩
          · rw [if_neg c7] at H
            have c7b0 : decide (x9_1 < a0) = false := decide_eq_false c7
            clear c7
            have H' := Aside0.mk H
            clear H
            go_wp2
            go_loopg [10, 11] k1 (fun kq v10 v11 w' => ∃ (x10_2 : List (S53)) (x11_2 : Int), v11 = .int .i64 x11_2 ∧ Aside0 (verditerref06_Rename.l1 kq l1 l2 x10_2 x11_2 = some (r1, r2)) ∧ Aside0 (kq ≤ k1) ∧ Aside0 (Kd.S k53 53 w' w.heap.size (fun _ => True) v10 x10_2) ∧ Aside0 (Below w.heap.size w w'))
            case atStart => exact ⟨(([] : List (S53))), (0), (by first | rfl | (simp; done) | (simp [*]; done)), H', ⟨Nat.le_refl _⟩, ⟨by first | exact Kd.S_nil _ _ _ _ _ | exact Kd.N_nil _ _ _ _ _ | exact Kd.V_nil _ _ _ _ _ | exact Kd.Q_nil _ _ _ _ _ | exact Kd.R_nil _ _ _ _ _⟩, ⟨by repeat (first | (with_reducible first | exact HB.out | apply below_alloc | apply pw_below_drewN | apply below_drew1) | exact HB.out)⟩⟩
            case round =>
              clear H'
              try clear c1
              try clear c2
              try clear p2
              try clear c5
              try clear c5b0
              try clear c5b1
              try clear c6
              try clear c6b0
              try clear c6b1
              try clear p6
              try clear c7
              try clear c7b0
              try clear c9
              try clear p2
              obtain ⟨x10_2, x11_2, rfl, HA, HK2, HO_10, HB⟩ := hrel
              cases gk with
              | zero => exact absurd HA.out (by simp [verditerref06_Rename.l1])
              | succ k2 =>
                have H := HA.out
                clear HA
                simp only [verditerref06_Rename.l1] at H
                by_cases c10 : x11_2 < (l1.length : Int)
                · rw [if_pos c10] at H
                  have c10b0 : decide (x11_2 < (l1.length : Int)) = true := decide_eq_true c10
                  clear c10
                  by_cases c11 : 0 ≤ x11_2
                  · rw [if_pos c11] at H
                    have c11b0 : decide (0 ≤ x11_2) = true := decide_eq_true c11
                    clear c11
                    replace H := Option.bind_eq_some_iff.mp H
                    obtain ⟨t697, A120, H⟩ := H
                    replace H : ((verditerref06_renamed.f k2 ((rd_T53 l1 x11_2).f1) l2).bind fun t701 => (if x10_2.length < 2932031007402 then (verditerref06_Rename.l1 k2 l1 l2 (x10_2 ++ [(⟨t697, t701⟩ : S53)]) (wrap64 (x11_2 + 1))) else (none))) = some (r1, r2) := H
                    have A12 := Aside0.mk A120
                    clear A120
                    replace H := Option.bind_eq_some_iff.mp H
                    obtain ⟨t701, A130, H⟩ := H
                    replace H : (if x10_2.length < 2932031007402 then (verditerref06_Rename.l1 k2 l1 l2 (x10_2 ++ [(⟨t697, t701⟩ : S53)]) (wrap64 (x11_2 + 1))) else (none)) = some (r1, r2) := H
                    have A13 := Aside0.mk A130
                    clear A130
                    by_cases c14 : x10_2.length < 2932031007402
                    · rw [if_pos c14] at H
                      have LMc14 := Aside0.mk c14
                      clear c14
                      obtain ⟨y704, hy704⟩ : ∃ y_ : List (S53), y_ = (x10_2 ++ [(⟨t697, t701⟩ : S53)]) := ⟨_, rfl⟩
                      replace H : (verditerref06_Rename.l1 k2 l1 l2 y704 (wrap64 (x11_2 + 1))) = some (r1, r2) := by first | (rw [hy704]; with_reducible exact H) | (have H2_ := (Option.bind_some _ _).symm.trans H; rw [hy704]; with_reducible exact H2_) | (have H2_ := (Option.bind_some _ _).symm.trans H; with_reducible exact H2_) | with_reducible exact H | (rw [hy704]; exact H) | exact H
                      have Ny704 := Aside0.mk hy704
                      clear hy704
                      have H' := Aside0.mk H
                      clear H
                      try go_wp2
                      have n0_ := Aside0.mk (Kd.S_drew HO_10.out)
                      have n1_ := Aside0.mk (below_drew1 HB.out)
                      clear HO_10
                      clear HB
                      have HO_10 := n0_
                      have HB := n1_
                      clear n0_ n1_
                      have p696 : 0 ≤ (x11_2 : Int) := of_decide_eq_true (by first | (with_reducible assumption) | assumption)
                      have q696 : x11_2 < (l1.length : Int) := of_decide_eq_true (by first | (with_reducible assumption) | assumption)
                      obtain ⟨ad696, A696_0, c696_0, A696_1, c696_1, e696, hx696_0, hx696_1, hl696_0, hi696_0, hl696_1, hi696_1⟩ := at_T53 HR1.out x11_2 p696 q696
                      have hw696_1 := hx696_1
                      have hw696_0 := hx696_0
                      cases e696
                      replace hx696_0 := (HB.out.cell (World.block_lt_of_cell? w _ hx696_0)).trans hx696_0
                      replace hx696_1 := (HB.out.cell (World.block_lt_of_cell? w _ hx696_1)).trans hx696_1
                      have HR696_0 := Aside0.mk hi696_0
                      have HC696_0 := Aside0.mk hl696_0
                      clear hi696_0 hl696_0
                      have HR696_1 := Aside0.mk hi696_1
                      have HC696_1 := Aside0.mk hl696_1
                      clear hi696_1 hl696_1
                      replace p696 := eq_true p696
                      replace q696 := eq_true q696
                      have p700 : 0 ≤ (x11_2 : Int) := of_decide_eq_true (by first | (with_reducible assumption) | assumption)
                      have q700 : x11_2 < (l1.length : Int) := of_decide_eq_true (by first | (with_reducible assumption) | assumption)
                      obtain ⟨ad700, A700_0, c700_0, A700_1, c700_1, e700, hx700_0, hx700_1, hl700_0, hi700_0, hl700_1, hi700_1⟩ := at_T53 HR1.out x11_2 p700 q700
                      have hw700_1 := hx700_1
                      have hw700_0 := hx700_0
                      obtain rfl : ad696 = ad700 := (by injection e700)
                      replace hx700_0 := (HB.out.cell (World.block_lt_of_cell? w _ hx700_0)).trans hx700_0
                      replace hx700_1 := (HB.out.cell (World.block_lt_of_cell? w _ hx700_1)).trans hx700_1
                      have HR700_0 := Aside0.mk hi700_0
                      have HC700_0 := Aside0.mk hl700_0
                      clear hi700_0 hl700_0
                      have HR700_1 := Aside0.mk hi700_1
                      have HC700_1 := Aside0.mk hl700_1
                      clear hi700_1 hl700_1
                      replace p700 := eq_true p700
                      replace q700 := eq_true q700
                      have ea_ := Option.some.inj (hx696_0.symm.trans hx700_0)
                      injection ea_ with ea_ en_ ec_
                      subst ea_
                      subst ec_
                      clear en_
                      have ea_ := Option.some.inj (hx696_1.symm.trans hx700_1)
                      injection ea_ with ea_ en_ ec_
                      subst ea_
                      subst ec_
                      clear en_
                      refine start_ (n := 19) (S := fun w' => w'.cell? (ad696.add ((x11_2).toNat * 2)) = some (.slice A696_0 ((rd_T53 l1 x11_2).f0).length c696_0) ∧ w'.cell? ⟨(ad696.add ((x11_2).toNat * 2)).block, (ad696.add ((x11_2).toNat * 2)).off + 1, none⟩ = some (.slice A696_1 ((rd_T53 l1 x11_2).f1).length c696_1) ∧ w'.cell? (ad696.add ((x11_2).toNat * 2)) = some (.slice A696_0 ((rd_T53 l1 x11_2).f0).length c696_0) ∧ w'.cell? ⟨(ad696.add ((x11_2).toNat * 2)).block, (ad696.add ((x11_2).toNat * 2)).off + 1, none⟩ = some (.slice A696_1 ((rd_T53 l1 x11_2).f1).length c696_1)) (ds := []) #[false, false, false, false, false, false, false, false, false, false, false, false, false, false, false, false, false, false, false] (by kernel_rfl) rfl rfl ⟨((HB.out.cell (World.block_lt_of_cell? w _ hw696_0)).trans hw696_0), ((HB.out.cell (World.block_lt_of_cell? w _ hw696_1)).trans hw696_1), ((HB.out.cell (World.block_lt_of_cell? w _ hw700_0)).trans hw700_0), ((HB.out.cell (World.block_lt_of_cell? w _ hw700_1)).trans hw700_1)⟩ (fun hHeld => ?_); refine with_tabW verditerref06_Rename.tab15 verditerref06_Rename.bits15 (fun HT_ HW_ => ?_)
                      generalize wr.drew = w15 at HO_10 HB HR696_0 HR696_1 HR700_0 HR700_1 hx696_0 hx696_1 hx700_0 hx700_1 hHeld ⊢
                      refine pure_ (i := 0) (N := some 37) (v := ?_) (a' := ?_) #[true, false, false, false, false, false, false, false, false, false, false, false, false, false, false, false, false, false, false] rfl rfl (any_of HT_.out (by kernel_rfl)) (fun _ _ _ h => h) (Or.inl ⟨by rfl, ?_⟩) ?_ ?_
                      rotate_left
                      · intro w'
                        go_simp
                        with_reducible rfl
                      rotate_left
                      · simp only [Act.put, List.setIfInBounds_toArray, List.set_cons_zero, List.set_cons_succ, i64_w, i32_w]
                        rfl
                      refine pure_ (i := 1) (N := some 38) (v := ?_) (a' := ?_) #[true, true, false, false, false, false, false, false, false, false, false, false, false, false, false, false, false, false, false] rfl rfl (any_of HT_.out (by kernel_rfl)) (fun _ _ _ h => h) (Or.inl ⟨by rfl, ?_⟩) ?_ ?_
                      rotate_left
                      · intro w'
                        go_simp
                        with_reducible rfl
                      rotate_left
                      · simp only [Act.put, List.setIfInBounds_toArray, List.set_cons_zero, List.set_cons_succ, i64_w, i32_w]
                        rfl
                      refine pure_ (i := 2) (N := some 39) (v := ?_) (a' := ?_) #[true, true, true, false, false, false, false, false, false, false, false, false, false, false, false, false, false, false, false] rfl rfl (any_of HT_.out (by kernel_rfl)) (fun _ _ _ h => h) (Or.inl ⟨by rfl, ?_⟩) ?_ ?_
                      rotate_left
                      · intro w'
                        go_simp
                        with_reducible rfl
                      rotate_left
                      · simp only [Act.put, List.setIfInBounds_toArray, List.set_cons_zero, List.set_cons_succ, i64_w, i32_w]
                        rfl
                      refine pure_ (i := 3) (N := some 40) (v := ?_) (a' := ?_) #[true, true, true, true, false, false, false, false, false, false, false, false, false, false, false, false, false, false, false] rfl rfl (any_of HT_.out (by kernel_rfl)) (fun _ _ _ h => h) (Or.inl ⟨by rfl, ?_⟩) ?_ ?_
                      rotate_left
                      · intro w'
                        go_simp
                        with_reducible rfl
                      rotate_left
                      · simp only [Act.put, List.setIfInBounds_toArray, List.set_cons_zero, List.set_cons_succ, i64_w, i32_w]
                        rfl
                      refine pure_ (i := 4) (N := some 41) (v := ?_) (a' := ?_) #[true, true, true, true, true, false, false, false, false, false, false, false, false, false, false, false, false, false, false] rfl rfl (any_of HT_.out (by kernel_rfl)) (fun _ _ _ h => h) (Or.inl ⟨by rfl, ?_⟩) ?_ ?_
                      rotate_left
                      · intro w'
                        go_simp
                        with_reducible rfl
                      rotate_left
                      · simp only [Act.put, List.setIfInBounds_toArray, List.set_cons_zero, List.set_cons_succ, i64_w, i32_w]
                        rfl
                      refine pure_ (i := 6) (N := some 43) (v := ?_) (a' := ?_) #[true, true, true, true, true, false, true, false, false, false, false, false, false, false, false, false, false, false, false] rfl rfl (any_of HT_.out (by kernel_rfl)) (fun _ _ _ h => h) (Or.inl ⟨by rfl, ?_⟩) ?_ ?_
                      rotate_left
                      · intro w'
                        go_simp
                        with_reducible rfl
                      rotate_left
                      · simp only [Act.put, List.setIfInBounds_toArray, List.set_cons_zero, List.set_cons_succ, i64_w, i32_w]
                        rfl
                      refine pure_ (i := 8) (N := some 45) (v := ?_) (a' := ?_) #[true, true, true, true, true, false, true, false, true, false, false, false, false, false, false, false, false, false, false] rfl rfl (any_of HT_.out (by kernel_rfl)) (fun _ _ _ h => h) (Or.inl ⟨by rfl, ?_⟩) ?_ ?_
                      rotate_left
                      · intro w'
                        go_simp
                        with_reducible rfl
                      rotate_left
                      · simp only [Act.put, List.setIfInBounds_toArray, List.set_cons_zero, List.set_cons_succ, i64_w, i32_w]
                        rfl
                      refine pure_ (i := 9) (N := some 46) (v := ?_) (a' := ?_) #[true, true, true, true, true, false, true, false, true, true, false, false, false, false, false, false, false, false, false] rfl rfl (any_of HT_.out (by kernel_rfl)) (fun _ _ _ h => h) (Or.inl ⟨by rfl, ?_⟩) ?_ ?_
                      rotate_left
                      · intro w'
                        go_simp
                        with_reducible rfl
                      rotate_left
                      · simp only [Act.put, List.setIfInBounds_toArray, List.set_cons_zero, List.set_cons_succ, i64_w, i32_w]
                        rfl
                      refine pure_ (i := 10) (N := some 47) (v := ?_) (a' := ?_) #[true, true, true, true, true, false, true, false, true, true, true, false, false, false, false, false, false, false, false] rfl rfl (any_of HT_.out (by kernel_rfl)) (fun _ _ _ h => h) (Or.inl ⟨by rfl, ?_⟩) ?_ ?_
                      rotate_left
                      · intro w'
                        go_simp
                        with_reducible rfl
                      rotate_left
                      · simp only [Act.put, List.setIfInBounds_toArray, List.set_cons_zero, List.set_cons_succ, i64_w, i32_w]
                        rfl
                      refine pure_ (i := 11) (N := some 48) (v := ?_) (a' := ?_) #[true, true, true, true, true, false, true, false, true, true, true, true, false, false, false, false, false, false, false] rfl rfl (any_of HT_.out (by kernel_rfl)) (fun _ _ _ h => h) (Or.inl ⟨by rfl, ?_⟩) ?_ ?_
                      rotate_left
                      · intro w'
                        go_simp
                        with_reducible rfl
                      rotate_left
                      · simp only [Act.put, List.setIfInBounds_toArray, List.set_cons_zero, List.set_cons_succ, i64_w, i32_w]
                        rfl
                      refine pure_ (i := 13) (N := some 50) (v := ?_) (a' := ?_) #[true, true, true, true, true, false, true, false, true, true, true, true, false, true, false, false, false, false, false] rfl rfl (any_of HT_.out (by kernel_rfl)) (fun _ _ _ h => h) (Or.inl ⟨by rfl, ?_⟩) ?_ ?_
                      rotate_left
                      · intro w'
                        go_simp
                        with_reducible rfl
                      rotate_left
                      · simp only [Act.put, List.setIfInBounds_toArray, List.set_cons_zero, List.set_cons_succ, i64_w, i32_w]
                        rfl
                      refine take_ (i := 5) (N := some 42) (v := ?_) (a' := ?_) #[true, true, true, true, true, true, true, false, true, true, true, true, false, true, false, false, false, false, false] rfl rfl (take_ofW HT_.out HW_.out (by kernel_rfl)) (fun _ _ _ h => h) (Or.inl ⟨by rfl, ?_⟩) hHeld ?_ ?_
                      rotate_left
                      · rintro w' ⟨s0, s1, s2, s3⟩
                        go_simp
                        with_reducible rfl
                      rotate_left
                      · simp only [Act.put, List.setIfInBounds_toArray, List.set_cons_zero, List.set_cons_succ, i64_w, i32_w]
                        rfl
                      refine take_ (i := 12) (N := some 49) (v := ?_) (a' := ?_) #[true, true, true, true, true, true, true, false, true, true, true, true, true, true, false, false, false, false, false] rfl rfl (take_ofW HT_.out HW_.out (by kernel_rfl)) (fun _ _ _ h => h) (Or.inl ⟨by rfl, ?_⟩) hHeld ?_ ?_
                      rotate_left
                      · rintro w' ⟨s0, s1, s2, s3⟩
                        go_simp
                        with_reducible rfl
                      rotate_left
                      · simp only [Act.put, List.setIfInBounds_toArray, List.set_cons_zero, List.set_cons_succ, i64_w, i32_w]
                        rfl
                      refine one_ (i := 7) (N := some 44) #[true, true, true, true, true, true, true, true, true, true, true, true, true, true, false, false, false, false, false] rfl rfl (one_of HT_.out (by kernel_rfl)) (by decide) (fun K hK => ?_)
                      refine goes_ Try.func110 (by kernel_rfl) rfl #[.slice A696_0 ((rd_T53 l1 x11_2).f0).length c696_0, .slice A2 l2.length c2] (by rfl) rfl rfl (by (try simp only [List.map_toArray, List.map_cons, List.map_nil]); first | done | rfl | (simp only [List.length_drop, List.length_take]; rfl)) ?_
                      with_reducible refine (verditerref06_renamed.calls k2 _ _ ((rd_T53 l1 x11_2).f0) _ _ l2 t697 _ ?side1 ?side2 ?side3 ?side4 A12.out).mono ?_
                      (case side1 => repeat (first | exact (Kd.C_below HR696_0.out HB.out) | (with_reducible refine Kd.C_alloc ?_ _) | (with_reducible refine Kd.C_drewN ?_ _) | (with_reducible refine Kd.C_drew ?_)))
                      (case side2 => exact HC696_0.out)
                      (case side3 => repeat (first | exact (Kd.C_below HR2.out HB.out) | (with_reducible refine Kd.C_alloc ?_ _) | (with_reducible refine Kd.C_drewN ?_ _) | (with_reducible refine Kd.C_drew ?_)))
                      (case side4 => exact HC2.out)
                      rintro e w16 ⟨v698, rfl, ho0, hb⟩
                      refine ⟨_, rfl, ?_⟩
                      have n0_ := Aside0.mk (Kd.S_elder' (by (with_reducible repeat (first | apply Kd.S_alloc | apply Kd.S_drewN | apply Kd.S_drew)); exact HO_10.out) (Kd.R_base ho0) hb)
                      have n1_ := Aside0.mk (Kd.R_lower ho0 (below_size (by repeat (first | (with_reducible first | exact HB.out | apply below_alloc | apply pw_below_drewN | apply below_drew1) | exact HB.out))))
                      have n2_ := Aside0.mk (below_step (by repeat (first | (with_reducible first | exact HB.out | apply below_alloc | apply pw_below_drewN | apply below_drew1) | exact HB.out)) hb)
                      clear HO_10
                      clear HB
                      have HO_10 := n0_
                      have HO699 := n1_
                      have HB := n2_
                      clear n0_ n1_ n2_
                      (try clear hb)
                      (try clear hb2)
                      (try clear hk)
                      (try clear hi)
                      (try clear ho0)
                      refine hK.out _ _ ⟨((HB.out.cell (World.block_lt_of_cell? w _ hw696_0)).trans hw696_0), ((HB.out.cell (World.block_lt_of_cell? w _ hw696_1)).trans hw696_1), ((HB.out.cell (World.block_lt_of_cell? w _ hw700_0)).trans hw700_0), ((HB.out.cell (World.block_lt_of_cell? w _ hw700_1)).trans hw700_1)⟩ (fun hHeld => ?_)
                      clear hK K
                      refine norm_ (a' := ?_) ?_ ?_
                      rotate_left
                      · show Act.put _ (some 44) _ = _
                        simp only [Act.put, List.setIfInBounds_toArray, List.set_cons_zero, List.set_cons_succ, i64_w, i32_w]
                        rfl
                      refine one_ (i := 14) (N := some 51) #[true, true, true, true, true, true, true, true, true, true, true, true, true, true, true, false, false, false, false] rfl rfl (one_of HT_.out (by kernel_rfl)) (by decide) (fun K hK => ?_)
                      refine goes_ Try.func110 (by kernel_rfl) rfl #[.slice A696_1 ((rd_T53 l1 x11_2).f1).length c696_1, .slice A2 l2.length c2] (by rfl) rfl rfl (by (try simp only [List.map_toArray, List.map_cons, List.map_nil]); first | done | rfl | (simp only [List.length_drop, List.length_take]; rfl)) ?_
                      with_reducible refine (verditerref06_renamed.calls k2 _ _ ((rd_T53 l1 x11_2).f1) _ _ l2 t701 _ ?side1 ?side2 ?side3 ?side4 A13.out).mono ?_
                      (case side1 => repeat (first | exact (Kd.C_below HR700_1.out HB.out) | (with_reducible refine Kd.C_alloc ?_ _) | (with_reducible refine Kd.C_drewN ?_ _) | (with_reducible refine Kd.C_drew ?_)))
                      (case side2 => exact HC700_1.out)
                      (case side3 => repeat (first | exact (Kd.C_below HR2.out HB.out) | (with_reducible refine Kd.C_alloc ?_ _) | (with_reducible refine Kd.C_drewN ?_ _) | (with_reducible refine Kd.C_drew ?_)))
                      (case side4 => exact HC2.out)
                      rintro e w17 ⟨v702, rfl, ho0, hb⟩
                      refine ⟨_, rfl, ?_⟩
                      have n0_ := Aside0.mk (Kd.S_elder' (by (with_reducible repeat (first | apply Kd.S_alloc | apply Kd.S_drewN | apply Kd.S_drew)); exact HO_10.out) (Kd.R_base ho0) hb)
                      have n1_ := Aside0.mk (Kd.R_elder' (by (with_reducible repeat (first | apply Kd.R_alloc | apply Kd.R_drewN | apply Kd.R_drew)); exact HO699.out) (Kd.R_base ho0) hb)
                      have n2_ := Aside0.mk (Kd.R_lower (Kd.R_new' ho0 (Kd.R_lt (by (with_reducible repeat (first | apply Kd.R_alloc | apply Kd.R_drewN | apply Kd.R_drew)); exact HO699.out))) (below_size (by repeat (first | (with_reducible first | exact HB.out | apply below_alloc | apply pw_below_drewN | apply below_drew1) | exact HB.out))))
                      have n3_ := Aside0.mk (below_step (by repeat (first | (with_reducible first | exact HB.out | apply below_alloc | apply pw_below_drewN | apply below_drew1) | exact HB.out)) hb)
                      clear HO_10
                      clear HO699
                      clear HB
                      have HO_10 := n0_
                      have HO699 := n1_
                      have HO703 := n2_
                      have HB := n3_
                      clear n0_ n1_ n2_ n3_
                      (try clear hb)
                      (try clear hb2)
                      (try clear hk)
                      (try clear hi)
                      (try clear ho0)
                      obtain ⟨Ao18, co18, eo18⟩ := Kd.R_slice HO703.out
                      (first | subst eo18 | (injection eo18 with f1_ f2_ f3_; have f4_ := f1_.symm; have f5_ := f3_.symm; clear f1_ f2_ f3_; subst f4_; subst f5_))
                      obtain ⟨Ao19, co19, eo19⟩ := Kd.R_slice HO699.out
                      (first | subst eo19 | (injection eo19 with f1_ f2_ f3_; have f4_ := f1_.symm; have f5_ := f3_.symm; clear f1_ f2_ f3_; subst f4_; subst f5_))
                      refine hK.out _ _ ⟨((HB.out.cell (World.block_lt_of_cell? w _ hw696_0)).trans hw696_0), ((HB.out.cell (World.block_lt_of_cell? w _ hw696_1)).trans hw696_1), ((HB.out.cell (World.block_lt_of_cell? w _ hw700_0)).trans hw700_0), ((HB.out.cell (World.block_lt_of_cell? w _ hw700_1)).trans hw700_1)⟩ (fun hHeld => ?_)
                      clear hK K
                      refine norm_ (a' := ?_) ?_ ?_
                      rotate_left
                      · show Act.put _ (some 51) _ = _
                        simp only [Act.put, List.setIfInBounds_toArray, List.set_cons_zero, List.set_cons_succ, i64_w, i32_w]
                        rfl
                      refine pure_ (i := 15) (N := some 52) (v := ?_) (a' := ?_) #[true, true, true, true, true, true, true, true, true, true, true, true, true, true, true, true, false, false, false] rfl rfl (any_of HT_.out (by kernel_rfl)) (fun _ _ _ h => h) (Or.inl ⟨by rfl, ?_⟩) ?_ ?_
                      rotate_left
                      · intro w'
                        go_simp
                        with_reducible rfl
                      rotate_left
                      · simp only [Act.put, List.setIfInBounds_toArray, List.set_cons_zero, List.set_cons_succ, i64_w, i32_w]
                        rfl
                      refine one_ (i := 16) (N := some 53) #[true, true, true, true, true, true, true, true, true, true, true, true, true, true, true, true, true, false, false] rfl rfl (one_of HT_.out (by kernel_rfl)) (by decide) (fun K hK => ?_)
                      refine value_ (w1 := ?_) (v := ?_) (by rfl) rfl ?_ ?_
                      rotate_left 2
                      · go_simp
                        constructor
                        · rfl
                        · rfl
                      refine hK.out _ _ ⟨(World.cell?_alloc_lt _ _ _ (World.block_lt_of_cell? _ _ (((HB.out.cell (World.block_lt_of_cell? w _ hw696_0)).trans hw696_0)))).trans (((HB.out.cell (World.block_lt_of_cell? w _ hw696_0)).trans hw696_0)), (World.cell?_alloc_lt _ _ _ (World.block_lt_of_cell? _ _ (((HB.out.cell (World.block_lt_of_cell? w _ hw696_1)).trans hw696_1)))).trans (((HB.out.cell (World.block_lt_of_cell? w _ hw696_1)).trans hw696_1)), (World.cell?_alloc_lt _ _ _ (World.block_lt_of_cell? _ _ (((HB.out.cell (World.block_lt_of_cell? w _ hw700_0)).trans hw700_0)))).trans (((HB.out.cell (World.block_lt_of_cell? w _ hw700_0)).trans hw700_0)), (World.cell?_alloc_lt _ _ _ (World.block_lt_of_cell? _ _ (((HB.out.cell (World.block_lt_of_cell? w _ hw700_1)).trans hw700_1)))).trans (((HB.out.cell (World.block_lt_of_cell? w _ hw700_1)).trans hw700_1))⟩ (fun hHeld => ?_)
                      clear hK K
                      refine norm_ (a' := ?_) ?_ ?_
                      rotate_left
                      · show Act.put _ (some 53) _ = _
                        simp only [Act.put, List.setIfInBounds_toArray, List.set_cons_zero, List.set_cons_succ, i64_w, i32_w]
                        rfl
                      refine one_ (i := 17) (N := some 54) #[true, true, true, true, true, true, true, true, true, true, true, true, true, true, true, true, true, true, false] rfl rfl (one_of HT_.out (by kernel_rfl)) (by decide) (fun K hK => ?_)
                      refine Kd.S_append_step k53 (w0 := w) w.heap.size (by rfl) (.tmp 37) (.tmp 53) 22 53 (.agg #[(.slice none 0 0), (.slice none 0 0)]) 48 rfl Try.underlying22 info53 rfl (by decide) (by omega) u10 x10_2 (⟨t697, t701⟩ : S53) [.slice Ao19 t697.length co19, .slice Ao18 t701.length co18] (fun _ => True) (fun k_ => some k_ = (.slice Ao19 t697.length co19 : Value).ownBlock ∨ some k_ = (.slice Ao18 t701.length co18 : Value).ownBlock) rfl rfl ?aP (fun k_ hk_ => hk_.elim (fun h_ => ((Kd.R_mono (ok' := fun k_ => ((fun _ => True)) k_ ∧ some k_ ≠ (u10 : Value).ownBlock) (Kd.R_apart' (HO699.out) (Kd.S_typed HO_10.out) (by decide)) (fun k_ hk => ⟨trivial, hk.2⟩))).1 k_ h_.symm) (fun h_ => ((Kd.R_mono (ok' := fun k_ => ((fun _ => True)) k_ ∧ some k_ ≠ (u10 : Value).ownBlock) (Kd.R_apart' (HO703.out) (Kd.S_typed HO_10.out) (by decide)) (fun k_ hk => ⟨trivial, hk.2⟩))).1 k_ h_.symm)) ?aF ?aO ?aB ?aS ?aL ?_
                      (case aP => exact k53_mkM _ _ _ (⟨t697, t701⟩ : S53) (Kd.R_mono (Kd.R_tight rfl (Kd.R_mono (ok' := fun k_ => ((fun _ => True)) k_ ∧ some k_ ≠ (u10 : Value).ownBlock) (Kd.R_apart' (HO699.out) (Kd.S_typed HO_10.out) (by decide)) (fun k_ hk => ⟨trivial, hk.2⟩))) (fun _ h_ => Or.inl h_)) (Kd.R_mono (Kd.R_tight rfl (Kd.R_mono (ok' := fun k_ => ((fun _ => True)) k_ ∧ some k_ ≠ (u10 : Value).ownBlock) (Kd.R_apart' (HO703.out) (Kd.S_typed HO_10.out) (by decide)) (fun k_ hk => ⟨trivial, hk.2⟩))) (fun _ h_ => Or.inr (h_))))
                      (case aB => exact (by repeat (first | (with_reducible first | exact HB.out | apply below_alloc | apply pw_below_drewN | apply below_drew1) | exact HB.out)))
                      (case aF => exact (fun _ _ => trivial))
                      (case aO => exact (by (with_reducible repeat (first | apply Kd.S_alloc | apply Kd.S_drewN | apply Kd.S_drew)); exact Kd.S_mono HO_10.out (fun k_ hk => ⟨trivial, fun e_ => e_.elim (fun h_ => hk.1.2 h_) (fun h_ => hk.2 h_)⟩)))
                      (case aS => exact (below_size (by repeat (first | (with_reducible first | exact HB.out | apply below_alloc | apply pw_below_drewN | apply below_drew1) | exact HB.out))))
                      (case aL => have := LMc14.out; omega)
                      intro v705 w20 ho hb hg hat
                      rw [← Ny704.out] at ho
                      have n0_ := Aside0.mk (hb)
                      have n1_ := Aside0.mk (ho)
                      clear HB
                      clear HO_10
                      clear HO699
                      clear HO703
                      have HB := n0_
                      have HO706 := n1_
                      clear n0_ n1_
                      clear ho hb hg hat
                      refine hK.out _ _ ⟨((HB.out.cell (World.block_lt_of_cell? w _ hw696_0)).trans hw696_0), ((HB.out.cell (World.block_lt_of_cell? w _ hw696_1)).trans hw696_1), ((HB.out.cell (World.block_lt_of_cell? w _ hw700_0)).trans hw700_0), ((HB.out.cell (World.block_lt_of_cell? w _ hw700_1)).trans hw700_1)⟩ (fun hHeld => ?_)
                      clear hK K
                      refine norm_ (a' := ?_) ?_ ?_
                      rotate_left
                      · show Act.put _ (some 54) _ = _
                        simp only [Act.put, List.setIfInBounds_toArray, List.set_cons_zero, List.set_cons_succ, i64_w, i32_w]
                        rfl
                      refine pure_ (i := 18) (N := some 10) (v := ?_) (a' := ?_) #[true, true, true, true, true, true, true, true, true, true, true, true, true, true, true, true, true, true, true] rfl rfl (any_of HT_.out (by kernel_rfl)) (fun _ _ _ h => h) (Or.inl ⟨by rfl, ?_⟩) ?_ ?_
                      rotate_left
                      · intro w'
                        go_simp
                        with_reducible rfl
                      rotate_left
                      · simp only [Act.put, List.setIfInBounds_toArray, List.set_cons_zero, List.set_cons_succ, i64_w, i32_w]
                        rfl
                      refine done_ (done_of HT_.out (by kernel_rfl)) ?_
                      try go_wp2
                      go_roundg k2
                      case measure => have := HK1.out; have := HK2.out; omega
                      case rel => exact ⟨(y704), (wrap64 (x11_2 + 1)), (by first | rfl | (simp; done) | (simp [*]; done)), H', ⟨by have := HK1.out; have := HK2.out; omega⟩, ⟨by (with_reducible repeat (first | apply Kd.S_alloc | apply Kd.S_drewN | apply Kd.S_drew)); exact HO706.out⟩, ⟨by repeat (first | (with_reducible first | exact HB.out | apply below_alloc | apply pw_below_drewN | apply below_drew1) | exact HB.out)⟩⟩
                    · rw [if_neg c14] at H
                      exact absurd H (by simp)
                  · rw [if_neg c11] at H
                    exact absurd H (by simp)
                · rw [if_neg c10] at H
                  have c10b0 : decide (x11_2 < (l1.length : Int)) = false := decide_eq_false c10
                  clear c10
                  simp only [Option.some.injEq, Prod.mk.injEq] at H
                  obtain ⟨rfl, rfl⟩ := H
                  go_wp2
                  go_ret2
                  exact ⟨_, by first | rfl | (simp [errW_none, errW_some] <;> rfl) | (simp [*, errW_none, errW_some] <;> rfl), by (with_reducible repeat (first | apply Kd.S_alloc | apply Kd.S_drewN | apply Kd.S_drew)); exact HO_10.out, by repeat (first | (with_reducible first | exact HB.out | apply below_alloc | apply pw_below_drewN | apply below_drew1) | exact HB.out)⟩
    · rw [if_neg c6] at H
      have c6b0 : ((l2.length : Int) == a0) = false := beq_eq_false_iff_ne.mpr c6
      have c6b1 : ((l2.length : Int) != a0) = true := bne_iff_ne.mpr c6
      simp only [Option.some.injEq, Prod.mk.injEq] at H
      obtain ⟨rfl, rfl⟩ := H
      go_enter Try.func75, Try.ntmps75
      go_wp2_with (first | ((with_reducible refine gate_callee (f := 59) rfl ?_); refine goesL_ (some 14) rfl rfl Try.func59 (by kernel_rfl) rfl #[.int .i64 a0, .slice A1 l1.length c1] rfl (by (try simp only [List.map_toArray, List.map_cons, List.map_nil]); first | done | rfl | (simp only [List.length_drop, List.length_take]; rfl)) ?_; (with_reducible refine (verditerref06_Validate.calls k a0 _ _ l1 t694 _ ?side1 ?side2 A4.out).mono ?_); (case side1 => repeat (first | exact HR1.out | (with_reducible refine Kd.C_alloc ?_ _) | (with_reducible refine Kd.C_drewN ?_ _) | (with_reducible refine Kd.C_drew ?_))); (case side2 => exact HC1.out); rintro e w' ⟨rfl, ⟨nd, rfl⟩⟩; refine ⟨_, rfl, ?_⟩))
      go_ret2
      exact ⟨_, by first | rfl | (simp [errW_none, errW_some] <;> rfl) | (simp [*, errW_none, errW_some] <;> rfl), by first | exact Kd.S_nil _ _ _ _ _ | exact Kd.N_nil _ _ _ _ _ | exact Kd.V_nil _ _ _ _ _ | exact Kd.Q_nil _ _ _ _ _ | exact Kd.R_nil _ _ _ _ _, by repeat (first | (with_reducible first | exact HB.out | apply below_alloc | apply pw_below_drewN | apply below_drew1) | exact HB.out)⟩
  · rw [if_neg c5] at H
    have c5b0 : (t694 == 0) = false := beq_eq_false_iff_ne.mpr c5
    have c5b1 : (t694 != 0) = true := bne_iff_ne.mpr c5
    simp only [Option.some.injEq, Prod.mk.injEq] at H
    obtain ⟨rfl, rfl⟩ := H
    go_enter Try.func75, Try.ntmps75
    go_wp2_with (first | ((with_reducible refine gate_callee (f := 59) rfl ?_); refine goesL_ (some 14) rfl rfl Try.func59 (by kernel_rfl) rfl #[.int .i64 a0, .slice A1 l1.length c1] rfl (by (try simp only [List.map_toArray, List.map_cons, List.map_nil]); first | done | rfl | (simp only [List.length_drop, List.length_take]; rfl)) ?_; (with_reducible refine (verditerref06_Validate.calls k a0 _ _ l1 t694 _ ?side1 ?side2 A4.out).mono ?_); (case side1 => repeat (first | exact HR1.out | (with_reducible refine Kd.C_alloc ?_ _) | (with_reducible refine Kd.C_drewN ?_ _) | (with_reducible refine Kd.C_drew ?_))); (case side2 => exact HC1.out); rintro e w' ⟨rfl, ⟨nd, rfl⟩⟩; refine ⟨_, rfl, ?_⟩))
    go_ret2
    exact ⟨_, by first | rfl | (simp [errW_none, errW_some] <;> rfl) | (simp [*, errW_none, errW_some] <;> rfl), by first | exact Kd.S_nil _ _ _ _ _ | exact Kd.N_nil _ _ _ _ _ | exact Kd.V_nil _ _ _ _ _ | exact Kd.Q_nil _ _ _ _ _ | exact Kd.R_nil _ _ _ _ _, by repeat (first | (with_reducible first | exact HB.out | apply below_alloc | apply pw_below_drewN | apply below_drew1) | exact HB.out)⟩

end Go.Proofs.Ytdbeochifofdoaa.X
end

section
-- Written by a program of this session (wip/hook.py, which runs the kit's print.py with contracts proved by hand). Not trusted: Lean checks it.
namespace Go.Proofs.Ytdbeochifofdoaa.X
open Go.RowKit Go.Proofs.YtdbeochifofdoaaW.PrintWords Go.Proofs.YtdbeochifofdoaaW.PrintLast Go.Proofs.YtdbeochifofdoaaW.PrintMore
attribute [local go_sem] max2_int min2_int max_two min_two max_three min_three max_four min_four   -- for this text's walks alone
set_option linter.unusedVariables false
set_option linter.unusedSimpArgs false

/-! ### weigh_copied: function 108 -/
def weigh_copied.l0 : Nat → List (S53) → List (S53) → Int → Int → Option ((List (S53)))
  | 0, _, _, _, _ => none
  | k + 1, x3, x6, x7, x8 => if x8 < x7 then (if 0 ≤ x8 then (if x8 < (x6.length : Int) then ((slices_Clone_int_int.f ((rd_T53 x6 x8).f0)).bind fun t647 => ((slices_Clone_int_int.f ((rd_T53 x6 x8).f1)).bind fun t650 => (if x3.length < 2932031007402 then (weigh_copied.l0 k (x3 ++ [(⟨t647, t650⟩ : S53)]) x6 x7 (wrap64 (x8 + 1))) else (none)))) else (none)) else (none)) else (some x3)
def weigh_copied.f (k : Nat) (l0 : List (S53)) : Option ((List (S53))) := weigh_copied.l0 k ([] : List (S53)) l0 (l0.length : Int) 0
def weigh_copied.T5 : Bool × List (List Nat × List Nat) := (true, [([], []), ([], []), ([1], [1]), ([2], [2]), ([], []), ([4], [4]), ([5, 3], [5]), ([3, 6], [3, 6]), ([7], [7]), ([0, 8, 6], [0, 8]), ([9, 9, 0, 1, 2, 3, 4, 5, 6, 7, 8, 9], [0, 9])])
def weigh_copied.B5 : List Nat := [0, 0, 2, 6, 0, 16, 62, 126, 254, 511, 1023]
theorem weigh_copied.tab5 : rtab .any (opsOf Try.f108 5) = weigh_copied.T5 := by kernel_rfl
theorem weigh_copied.bits5 : waitsOk weigh_copied.T5.2 weigh_copied.B5 = true := by kernel_rfl
end Go.Proofs.Ytdbeochifofdoaa.X
end

section
/-! weigh.copied, once more: the two sides of a weighing lie apart. -/
namespace Go.Proofs.Ytdbeochifofdoaa.X
open Go.RowKit Go.Proofs.YtdbeochifofdoaaW.PrintWords Go.Proofs.YtdbeochifofdoaaW.PrintLast Go.Proofs.YtdbeochifofdoaaW.PrintMore
attribute [local go_sem] max2_int min2_int max_two min_two max_three min_three max_four min_four
set_option linter.unusedVariables false
set_option linter.unusedSimpArgs false
/-- A kind, and something of its cells. -/
def onlyK {α : Type} (d : Kd α) (p : List Value → Prop) : Kd α where
  sz := d.sz
  E := d.E
  K := d.K
  M := fun w base ok x cs => d.M w base ok x cs ∧ p cs
  K_len := d.K_len
  K_one := d.K_one
  K_below := d.K_below
  K_of_M := fun h => d.K_of_M h.1
  M_mono := fun hok h => ⟨d.M_mono hok h.1, h.2⟩
  M_bound := fun h => ⟨d.M_bound h.1, h.2⟩
  M_move := fun hm h => ⟨d.M_move hm h.1, h.2⟩
  M_lower := fun hb h => ⟨d.M_lower hb h.1, h.2⟩
def k53a : Kd S53 := onlyK k53 (fun cs => ∃ v0 v1, cs = [v0, v1] ∧ ∀ b, v0.ownBlock = some b → v1.ownBlock = some b → False)
set_option maxHeartbeats 8000000 in
set_option maxRecDepth 100000 in
theorem weigh_copied.callsA (k : Nat) (A0 : Option Addr) (c0 : Nat) (l0 : List (S53)) (r : List (S53)) (w : World) (hr0 : Kd.C k53 w A0 l0.length l0) (hc0 : l0.length ≤ c0) (h : weigh_copied.f k l0 = some r) :
    Calls Try.prog 108 #[.slice A0 l0.length c0] w fun e w' => ∃ v0_ : Value, e = .returned (v0_) ∧ Kd.S k53a 53 w' w.heap.size (fun _ => True) v0_ r ∧ Below w.heap.size w w' := by
  have hu53 := Try.underlying53
  have HR0 := Aside0.mk hr0
  have HC0 := Aside0.mk hc0
  clear hr0 hc0
  have HB := Aside0.mk (Below.refl w.heap.size w)
  have H : (weigh_copied.l0 k ([] : List (S53)) l0 (l0.length : Int) 0) = some r := h
  clear h
  have H' := Aside0.mk H
  clear H
  go_enter Try.func108, Try.ntmps108
  go_wp2
  go_loopg [3, 8] k (fun kq v3 v8 w' => ∃ (x3_1 : List (S53)) (x8_1 : Int), v8 = .int .i64 x8_1 ∧ Aside0 (weigh_copied.l0 kq x3_1 l0 (l0.length : Int) x8_1 = some r) ∧ Aside0 (kq ≤ k) ∧ Aside0 (Kd.S k53a 53 w' w.heap.size (fun _ => True) v3 x3_1) ∧ Aside0 (Below w.heap.size w w'))
  case atStart => exact ⟨(([] : List (S53))), (0), (by first | rfl | (simp; done) | (simp [*]; done)), H', ⟨Nat.le_refl _⟩, ⟨by first | exact Kd.S_nil _ _ _ _ _ | exact Kd.N_nil _ _ _ _ _ | exact Kd.V_nil _ _ _ _ _ | exact Kd.Q_nil _ _ _ _ _ | exact Kd.R_nil _ _ _ _ _⟩, ⟨by repeat (first | (with_reducible first | exact HB.out | apply below_alloc | apply pw_below_drewN | apply below_drew1) | exact HB.out)⟩⟩
  case round =>
    clear H'
    try clear c1
    obtain ⟨x3_1, x8_1, rfl, HA, HK1, HO_3, HB⟩ := hrel
    cases gk with
    | zero => exact absurd HA.out (by simp [weigh_copied.l0])
    | succ k1 =>
      have H := HA.out
      clear HA
      simp only [weigh_copied.l0] at H
      by_cases c2 : x8_1 < (l0.length : Int)
      · rw [if_pos c2] at H
        have c2b0 : decide (x8_1 < (l0.length : Int)) = true := decide_eq_true c2
        clear c2
        by_cases c3 : 0 ≤ x8_1
        · rw [if_pos c3] at H
          have c3b0 : decide (0 ≤ x8_1) = true := decide_eq_true c3
          clear c3
          by_cases c4 : x8_1 < (l0.length : Int)
          · rw [if_pos c4] at H
            have c4b0 : decide (x8_1 < (l0.length : Int)) = true := decide_eq_true c4
            clear c4
            replace H := Option.bind_eq_some_iff.mp H
            obtain ⟨t647, A50, H⟩ := H
            replace H : ((slices_Clone_int_int.f ((rd_T53 l0 x8_1).f1)).bind fun t650 => (if x3_1.length < 2932031007402 then (weigh_copied.l0 k1 (x3_1 ++ [(⟨t647, t650⟩ : S53)]) l0 (l0.length : Int) (wrap64 (x8_1 + 1))) else (none))) = some r := H
            have A5 := Aside0.mk A50
            clear A50
            replace H := Option.bind_eq_some_iff.mp H
            obtain ⟨t650, A60, H⟩ := H
            replace H : (if x3_1.length < 2932031007402 then (weigh_copied.l0 k1 (x3_1 ++ [(⟨t647, t650⟩ : S53)]) l0 (l0.length : Int) (wrap64 (x8_1 + 1))) else (none)) = some r := H
            have A6 := Aside0.mk A60
            clear A60
            by_cases c7 : x3_1.length < 2932031007402
            · rw [if_pos c7] at H
              have LMc7 := Aside0.mk c7
              clear c7
              obtain ⟨y653, hy653⟩ : ∃ y_ : List (S53), y_ = (x3_1 ++ [(⟨t647, t650⟩ : S53)]) := ⟨_, rfl⟩
              replace H : (weigh_copied.l0 k1 y653 l0 (l0.length : Int) (wrap64 (x8_1 + 1))) = some r := by first | (rw [hy653]; with_reducible exact H) | (have H2_ := (Option.bind_some _ _).symm.trans H; rw [hy653]; with_reducible exact H2_) | (have H2_ := (Option.bind_some _ _).symm.trans H; with_reducible exact H2_) | with_reducible exact H | (rw [hy653]; exact H) | exact H
              have Ny653 := Aside0.mk hy653
              clear hy653
              have H' := Aside0.mk H
              clear H
              have p645 : 0 ≤ (x8_1 : Int) := of_decide_eq_true (by first | (with_reducible assumption) | assumption)
              have q645 : x8_1 < (l0.length : Int) := of_decide_eq_true (by first | (with_reducible assumption) | assumption)
              obtain ⟨ad645, A645_0, c645_0, A645_1, c645_1, e645, hx645_0, hx645_1, hl645_0, hi645_0, hl645_1, hi645_1⟩ := at_T53 HR0.out x8_1 p645 q645
              cases e645
              replace hx645_0 := (HB.out.cell (World.block_lt_of_cell? w _ hx645_0)).trans hx645_0
              replace hx645_1 := (HB.out.cell (World.block_lt_of_cell? w _ hx645_1)).trans hx645_1
              have HR645_0 := Aside0.mk hi645_0
              have HC645_0 := Aside0.mk hl645_0
              clear hi645_0 hl645_0
              have HR645_1 := Aside0.mk hi645_1
              have HC645_1 := Aside0.mk hl645_1
              clear hi645_1 hl645_1
              replace p645 := eq_true p645
              replace q645 := eq_true q645
              try go_wp2_with (first | ((with_reducible refine gate_dst (N := 5) rfl ?_); refine box_event ?hg (N := 5) ?hd (cs := #[.slice none 0 0, .slice none 0 0]) (t := 53) ?hr ?_; (case hd => rfl); (case hg => rfl); (case hr => first | (go_simp; done) | (go_simp; rfl)); intro gb646 hg w8 hbox hb; have n0_ := Aside0.mk (Kd.S_below (Kd.S_elderB (by (with_reducible repeat (first | apply Kd.S_alloc | apply Kd.S_drewN | apply Kd.S_drew)); exact HO_3.out) gb646 (Nat.le_of_eq hg.symm)) hb); have n1_ := Aside0.mk (below_step (by repeat (first | (with_reducible first | exact HB.out | apply below_alloc | apply pw_below_drewN | apply below_drew1) | exact HB.out)) hb); have n2_ := Aside0.mk (hbox); have n3_ := Aside0.mk ((by rw [hg]; exact (below_size (by repeat (first | (with_reducible first | exact HB.out | apply below_alloc | apply pw_below_drewN | apply below_drew1) | exact HB.out))) : w.heap.size ≤ gb646)); have n4_ := Aside0.mk ((by rw [hg]; exact (below_size (by repeat (first | (with_reducible first | exact HB.out | apply below_alloc | apply pw_below_drewN | apply below_drew1) | exact HB.out))) : w.heap.size ≤ gb646)); clear HO_3; clear HB; have HO_3 := n0_; have HB := n1_; have BK646 := n2_; have GW646 := n3_; have GE646 := n4_; clear n0_ n1_ n2_ n3_ n4_; clear hb hbox hg; have hcz9_0 : w8.cell? ⟨gb646, 0, none⟩ = some (.slice none 0 0) := (blk_cell BK646.out 0).trans rfl; have hcz9_1 : w8.cell? ⟨gb646, 1, none⟩ = some (.slice none 0 0) := (blk_cell BK646.out 1).trans rfl; have hfz9_0 := blk_frozen BK646.out 0; have hfz9_1 := blk_frozen BK646.out 1))
              have n0_ : Aside0 (Kd.S k53a 53 ((w8.setCell ⟨gb646, 0, none⟩ (.slice A645_0 ((rd_T53 l0 x8_1).f0).length c645_0)).setCell ⟨gb646, 1, none⟩ (.slice A645_1 ((rd_T53 l0 x8_1).f1).length c645_1)) w.heap.size (fun k_ => k_ ≠ gb646) u3 x3_1) := ⟨by (with_reducible repeat (first | apply Kd.S_alloc | apply Kd.S_drewN | apply Kd.S_drew)); exact Kd.S_mono (Kd.S_far (p := ⟨gb646, 1, none⟩) (Kd.S_far (p := ⟨gb646, 0, none⟩) (Kd.S_mono HO_3.out (fun k_ hk => (⟨hk, hk.2⟩ : _ ∧ k_ ≠ gb646))) (fun _ hk => hk.2) (.slice A645_0 ((rd_T53 l0 x8_1).f0).length c645_0)) (fun _ hk => hk.2) (.slice A645_1 ((rd_T53 l0 x8_1).f1).length c645_1)) (fun _ hk => hk.1.2)⟩
              have n1_ : Aside0 (((w8.setCell ⟨gb646, 0, none⟩ (.slice A645_0 ((rd_T53 l0 x8_1).f0).length c645_0)).setCell ⟨gb646, 1, none⟩ (.slice A645_1 ((rd_T53 l0 x8_1).f1).length c645_1)).heap[gb646]? = some (.cells #[.slice A645_0 ((rd_T53 l0 x8_1).f0).length c645_0, .slice A645_1 ((rd_T53 l0 x8_1).f1).length c645_1] 53 (0, 0))) := ⟨by (with_reducible repeat (first | refine blk_drewN ?_ _ | refine blk_drew ?_ | refine blk_alloc ?_ _)); refine blk_put (cs := #[.slice A645_0 ((rd_T53 l0 x8_1).f0).length c645_0, .slice none 0 0]) ?_ 1 _ rfl; (with_reducible repeat (first | refine blk_drewN ?_ _ | refine blk_drew ?_ | refine blk_alloc ?_ _)); refine blk_put (cs := #[.slice none 0 0, .slice none 0 0]) ?_ 0 _ rfl; (with_reducible repeat (first | refine blk_drewN ?_ _ | refine blk_drew ?_ | refine blk_alloc ?_ _)); exact BK646.out⟩
              have n2_ : Aside0 (Below w.heap.size w ((w8.setCell ⟨gb646, 0, none⟩ (.slice A645_0 ((rd_T53 l0 x8_1).f0).length c645_0)).setCell ⟨gb646, 1, none⟩ (.slice A645_1 ((rd_T53 l0 x8_1).f1).length c645_1))) := ⟨by repeat (first | (with_reducible first | exact HB.out | apply below_alloc | apply pw_below_drewN | apply below_drew1 | refine below_set ?_ GE646.out) | exact HB.out)⟩
              (try clear HO_3)
              (try clear BK646)
              (try clear HB)
              generalize ((w8.setCell ⟨gb646, 0, none⟩ (.slice A645_0 ((rd_T53 l0 x8_1).f0).length c645_0)).setCell ⟨gb646, 1, none⟩ (.slice A645_1 ((rd_T53 l0 x8_1).f1).length c645_1)) = w10 at n0_ n1_ n2_ ⊢
              have HO_3 := n0_
              have BK646 := n1_
              have HB := n2_
              clear n0_ n1_ n2_
              have n0_ := Aside0.mk (Kd.S_drew HO_3.out)
              have n1_ := Aside0.mk (blk_drew BK646.out)
              have n2_ := Aside0.mk (below_drew1 HB.out)
              clear HO_3
              clear BK646
              clear HB
              have HO_3 := n0_
              have BK646 := n1_
              have HB := n2_
              clear n0_ n1_ n2_
              refine start_ (n := 11) (S := fun w' => w'.cell? ⟨gb646, 0, none⟩ = some (.slice A645_0 ((rd_T53 l0 x8_1).f0).length c645_0) ∧ w'.cell? ⟨gb646, 1, none⟩ = some (.slice A645_1 ((rd_T53 l0 x8_1).f1).length c645_1)) (ds := []) #[false, false, false, false, false, false, false, false, false, false, false] (by kernel_rfl) rfl rfl ⟨(blk_cell BK646.out 0).trans rfl, (blk_cell BK646.out 1).trans rfl⟩ (fun hHeld => ?_); refine with_tabW weigh_copied.tab5 weigh_copied.bits5 (fun HT_ HW_ => ?_)
              generalize w10.drew = w11 at HO_3 BK646 HB hHeld ⊢
              refine pure_ (i := 0) (N := some 12) (v := ?_) (a' := ?_) #[true, false, false, false, false, false, false, false, false, false, false] rfl rfl (any_of HT_.out (by kernel_rfl)) (fun _ _ _ h => h) (Or.inl ⟨by rfl, ?_⟩) ?_ ?_
              rotate_left
              · intro w'
                go_simp
                with_reducible rfl
              rotate_left
              · simp only [Act.put, List.setIfInBounds_toArray, List.set_cons_zero, List.set_cons_succ, i64_w, i32_w]
                rfl
              refine pure_ (i := 1) (N := some 13) (v := ?_) (a' := ?_) #[true, true, false, false, false, false, false, false, false, false, false] rfl rfl (any_of HT_.out (by kernel_rfl)) (fun _ _ _ h => h) (Or.inl ⟨by rfl, ?_⟩) ?_ ?_
              rotate_left
              · intro w'
                go_simp
                with_reducible rfl
              rotate_left
              · simp only [Act.put, List.setIfInBounds_toArray, List.set_cons_zero, List.set_cons_succ, i64_w, i32_w]
                rfl
              refine pure_ (i := 4) (N := some 16) (v := ?_) (a' := ?_) #[true, true, false, false, true, false, false, false, false, false, false] rfl rfl (any_of HT_.out (by kernel_rfl)) (fun _ _ _ h => h) (Or.inl ⟨by rfl, ?_⟩) ?_ ?_
              rotate_left
              · intro w'
                go_simp
                with_reducible rfl
              rotate_left
              · simp only [Act.put, List.setIfInBounds_toArray, List.set_cons_zero, List.set_cons_succ, i64_w, i32_w]
                rfl
              refine take_ (i := 2) (N := some 14) (v := ?_) (a' := ?_) #[true, true, true, false, true, false, false, false, false, false, false] rfl rfl (take_ofW HT_.out HW_.out (by kernel_rfl)) (fun _ _ _ h => h) (Or.inl ⟨by rfl, ?_⟩) hHeld ?_ ?_
              rotate_left
              · rintro w' ⟨s0, s1⟩
                go_simp
                with_reducible rfl
              rotate_left
              · simp only [Act.put, List.setIfInBounds_toArray, List.set_cons_zero, List.set_cons_succ, i64_w, i32_w]
                rfl
              refine take_ (i := 5) (N := some 17) (v := ?_) (a' := ?_) #[true, true, true, false, true, true, false, false, false, false, false] rfl rfl (take_ofW HT_.out HW_.out (by kernel_rfl)) (fun _ _ _ h => h) (Or.inl ⟨by rfl, ?_⟩) hHeld ?_ ?_
              rotate_left
              · rintro w' ⟨s0, s1⟩
                go_simp
                with_reducible rfl
              rotate_left
              · simp only [Act.put, List.setIfInBounds_toArray, List.set_cons_zero, List.set_cons_succ, i64_w, i32_w]
                rfl
              refine one_ (i := 3) (N := some 15) #[true, true, true, true, true, true, false, false, false, false, false] rfl rfl (one_of HT_.out (by kernel_rfl)) (by decide) (fun K hK => ?_)
              refine goes_ Try.func91 (by kernel_rfl) rfl #[.slice A645_0 ((rd_T53 l0 x8_1).f0).length c645_0] (by rfl) rfl rfl (by (try simp only [List.map_toArray, List.map_cons, List.map_nil]); first | done | rfl | (simp only [List.length_drop, List.length_take]; rfl)) ?_
              with_reducible refine (slices_Clone_int_int.calls _ _ ((rd_T53 l0 x8_1).f0) t647 _ ?side1 ?side2 A5.out).mono ?_
              (case side1 => repeat (first | exact (Kd.C_below HR645_0.out HB.out) | (with_reducible refine Kd.C_alloc ?_ _) | (with_reducible refine Kd.C_drewN ?_ _) | (with_reducible refine Kd.C_drew ?_)))
              (case side2 => exact HC645_0.out)
              rintro e w12 ⟨v648, rfl, ho0, hb⟩
              refine ⟨_, rfl, ?_⟩
              have n0_ := Aside0.mk (Kd.S_elder' (by (with_reducible repeat (first | apply Kd.S_alloc | apply Kd.S_drewN | apply Kd.S_drew)); exact HO_3.out) (Kd.R_base ho0) hb)
              have n1_ := Aside0.mk (Kd.R_lower ho0 (below_size (by repeat (first | (with_reducible first | exact HB.out | apply below_alloc | apply pw_below_drewN | apply below_drew1 | refine below_set ?_ GE646.out) | exact HB.out))))
              have n2_ := Aside0.mk (blk_below (g := gb646) (o := .cells #[.slice A645_0 ((rd_T53 l0 x8_1).f0).length c645_0, .slice A645_1 ((rd_T53 l0 x8_1).f1).length c645_1] 53 (0, 0)) (by (with_reducible repeat (first | refine blk_drewN ?_ _ | refine blk_drew ?_ | refine blk_alloc ?_ _)); exact BK646.out) hb)
              have n3_ := Aside0.mk (below_step (by repeat (first | (with_reducible first | exact HB.out | apply below_alloc | apply pw_below_drewN | apply below_drew1 | refine below_set ?_ GE646.out) | exact HB.out)) hb)
              clear HO_3
              clear BK646
              clear HB
              have HO_3 := n0_
              have HO649 := n1_
              have BK646 := n2_
              have HB := n3_
              clear n0_ n1_ n2_ n3_
              (try clear hb)
              (try clear hb2)
              (try clear hk)
              (try clear hi)
              (try clear ho0)
              refine hK.out _ _ ⟨(blk_cell BK646.out 0).trans rfl, (blk_cell BK646.out 1).trans rfl⟩ (fun hHeld => ?_)
              clear hK K
              refine norm_ (a' := ?_) ?_ ?_
              rotate_left
              · show Act.put _ (some 15) _ = _
                simp only [Act.put, List.setIfInBounds_toArray, List.set_cons_zero, List.set_cons_succ, i64_w, i32_w]
                rfl
              refine one_ (i := 6) (N := some 18) #[true, true, true, true, true, true, true, false, false, false, false] rfl rfl (one_of HT_.out (by kernel_rfl)) (by decide) (fun K hK => ?_)
              refine goes_ Try.func91 (by kernel_rfl) rfl #[.slice A645_1 ((rd_T53 l0 x8_1).f1).length c645_1] (by rfl) rfl rfl (by (try simp only [List.map_toArray, List.map_cons, List.map_nil]); first | done | rfl | (simp only [List.length_drop, List.length_take]; rfl)) ?_
              with_reducible refine (slices_Clone_int_int.calls _ _ ((rd_T53 l0 x8_1).f1) t650 _ ?side1 ?side2 A6.out).mono ?_
              (case side1 => repeat (first | exact (Kd.C_below HR645_1.out HB.out) | (with_reducible refine Kd.C_alloc ?_ _) | (with_reducible refine Kd.C_drewN ?_ _) | (with_reducible refine Kd.C_drew ?_)))
              (case side2 => exact HC645_1.out)
              rintro e w13 ⟨v651, rfl, ho0, hb⟩
              refine ⟨_, rfl, ?_⟩
              have n0_ := Aside0.mk (Kd.S_elder' (by (with_reducible repeat (first | apply Kd.S_alloc | apply Kd.S_drewN | apply Kd.S_drew)); exact HO_3.out) (Kd.R_base ho0) hb)
              have n1_ := Aside0.mk (Kd.R_elder' (by (with_reducible repeat (first | apply Kd.R_alloc | apply Kd.R_drewN | apply Kd.R_drew)); exact HO649.out) (Kd.R_base ho0) hb)
              have n2_ := Aside0.mk (Kd.R_lower (Kd.R_new' ho0 (Kd.R_lt (by (with_reducible repeat (first | apply Kd.R_alloc | apply Kd.R_drewN | apply Kd.R_drew)); exact HO649.out))) (below_size (by repeat (first | (with_reducible first | exact HB.out | apply below_alloc | apply pw_below_drewN | apply below_drew1 | refine below_set ?_ GE646.out) | exact HB.out))))
              have n3_ := Aside0.mk (blk_below (g := gb646) (o := .cells #[.slice A645_0 ((rd_T53 l0 x8_1).f0).length c645_0, .slice A645_1 ((rd_T53 l0 x8_1).f1).length c645_1] 53 (0, 0)) (by (with_reducible repeat (first | refine blk_drewN ?_ _ | refine blk_drew ?_ | refine blk_alloc ?_ _)); exact BK646.out) hb)
              have n4_ := Aside0.mk (below_step (by repeat (first | (with_reducible first | exact HB.out | apply below_alloc | apply pw_below_drewN | apply below_drew1 | refine below_set ?_ GE646.out) | exact HB.out)) hb)
              clear HO_3
              clear HO649
              clear BK646
              clear HB
              have HO_3 := n0_
              have HO649 := n1_
              have HO652 := n2_
              have BK646 := n3_
              have HB := n4_
              clear n0_ n1_ n2_ n3_ n4_
              (try clear hb)
              (try clear hb2)
              (try clear hk)
              (try clear hi)
              (try clear ho0)
              obtain ⟨Ao14, co14, eo14⟩ := Kd.R_slice HO652.out
              (first | subst eo14 | (injection eo14 with f1_ f2_ f3_; have f4_ := f1_.symm; have f5_ := f3_.symm; clear f1_ f2_ f3_; subst f4_; subst f5_))
              obtain ⟨Ao15, co15, eo15⟩ := Kd.R_slice HO649.out
              (first | subst eo15 | (injection eo15 with f1_ f2_ f3_; have f4_ := f1_.symm; have f5_ := f3_.symm; clear f1_ f2_ f3_; subst f4_; subst f5_))
              refine hK.out _ _ ⟨(blk_cell BK646.out 0).trans rfl, (blk_cell BK646.out 1).trans rfl⟩ (fun hHeld => ?_)
              clear hK K
              refine norm_ (a' := ?_) ?_ ?_
              rotate_left
              · show Act.put _ (some 18) _ = _
                simp only [Act.put, List.setIfInBounds_toArray, List.set_cons_zero, List.set_cons_succ, i64_w, i32_w]
                rfl
              refine pure_ (i := 7) (N := some 19) (v := ?_) (a' := ?_) #[true, true, true, true, true, true, true, true, false, false, false] rfl rfl (any_of HT_.out (by kernel_rfl)) (fun _ _ _ h => h) (Or.inl ⟨by rfl, ?_⟩) ?_ ?_
              rotate_left
              · intro w'
                go_simp
                with_reducible rfl
              rotate_left
              · simp only [Act.put, List.setIfInBounds_toArray, List.set_cons_zero, List.set_cons_succ, i64_w, i32_w]
                rfl
              refine one_ (i := 8) (N := some 20) #[true, true, true, true, true, true, true, true, true, false, false] rfl rfl (one_of HT_.out (by kernel_rfl)) (by decide) (fun K hK => ?_)
              refine value_ (w1 := ?_) (v := ?_) (by rfl) rfl ?_ ?_
              rotate_left 2
              · go_simp
                constructor
                · rfl
                · rfl
              refine hK.out _ _ ⟨(blk_cell (blk_alloc BK646.out _) 0).trans rfl, (blk_cell (blk_alloc BK646.out _) 1).trans rfl⟩ (fun hHeld => ?_)
              clear hK K
              refine norm_ (a' := ?_) ?_ ?_
              rotate_left
              · show Act.put _ (some 20) _ = _
                simp only [Act.put, List.setIfInBounds_toArray, List.set_cons_zero, List.set_cons_succ, i64_w, i32_w]
                rfl
              refine one_ (i := 9) (N := some 21) #[true, true, true, true, true, true, true, true, true, true, false] rfl rfl (one_of HT_.out (by kernel_rfl)) (by decide) (fun K hK => ?_)
              refine Kd.S_append_step k53a (w0 := w) w.heap.size (by rfl) (.tmp 12) (.tmp 20) 22 53 (.agg #[(.slice none 0 0), (.slice none 0 0)]) 48 rfl Try.underlying22 info53 rfl (by decide) (by omega) u3 x3_1 (⟨t647, t650⟩ : S53) [.slice Ao15 t647.length co15, .slice Ao14 t650.length co14] (fun k_ => k_ ≠ gb646) (fun k_ => some k_ = (.slice Ao15 t647.length co15 : Value).ownBlock ∨ some k_ = (.slice Ao14 t650.length co14 : Value).ownBlock) rfl rfl ?aP (fun k_ hk_ => hk_.elim (fun h_ => ((Kd.R_mono (ok' := fun k_ => ((fun k_ => k_ ≠ gb646)) k_ ∧ some k_ ≠ (u3 : Value).ownBlock) (Kd.R_types (Kd.R_apart' (HO649.out) (Kd.S_typed HO_3.out) (by decide)) BK646.out (by decide)) (fun k_ hk => ⟨hk.2, hk.1.2⟩))).1 k_ h_.symm) (fun h_ => ((Kd.R_mono (ok' := fun k_ => ((fun k_ => k_ ≠ gb646)) k_ ∧ some k_ ≠ (u3 : Value).ownBlock) (Kd.R_types (Kd.R_apart' (HO652.out) (Kd.S_typed HO_3.out) (by decide)) BK646.out (by decide)) (fun k_ hk => ⟨hk.2, hk.1.2⟩))).1 k_ h_.symm)) ?aF ?aO ?aB ?aS ?aL ?_
              (case aP => exact ⟨k53_mkM _ _ _ (⟨t647, t650⟩ : S53) (Kd.R_mono (Kd.R_tight rfl (Kd.R_mono (ok' := fun k_ => ((fun k_ => k_ ≠ gb646)) k_ ∧ some k_ ≠ (u3 : Value).ownBlock) (Kd.R_types (Kd.R_apart' (HO649.out) (Kd.S_typed HO_3.out) (by decide)) BK646.out (by decide)) (fun k_ hk => ⟨hk.2, hk.1.2⟩))) (fun _ h_ => Or.inl h_)) (Kd.R_mono (Kd.R_tight rfl (Kd.R_mono (ok' := fun k_ => ((fun k_ => k_ ≠ gb646)) k_ ∧ some k_ ≠ (u3 : Value).ownBlock) (Kd.R_types (Kd.R_apart' (HO652.out) (Kd.S_typed HO_3.out) (by decide)) BK646.out (by decide)) (fun k_ hk => ⟨hk.2, hk.1.2⟩))) (fun _ h_ => Or.inr (h_))), _, _, rfl, fun b h0 h1 => by have hx := HO649.out.1 b h0; simp_all⟩)
              (case aB => exact (by repeat (first | (with_reducible first | exact HB.out | apply below_alloc | apply pw_below_drewN | apply below_drew1 | refine below_set ?_ GE646.out) | exact HB.out)))
              (case aF => exact (fun k_ hk => Kd.freshB (g := gb646) (o := .cells #[.slice A645_0 ((rd_T53 l0 x8_1).f0).length c645_0, .slice A645_1 ((rd_T53 l0 x8_1).f1).length c645_1] 53 (0, 0)) (by (with_reducible repeat (first | refine blk_drewN ?_ _ | refine blk_drew ?_ | refine blk_alloc ?_ _)); exact BK646.out) k_ hk))
              (case aO => exact (by (with_reducible repeat (first | apply Kd.S_alloc | apply Kd.S_drewN | apply Kd.S_drew)); exact Kd.S_mono HO_3.out (fun k_ hk => ⟨hk.1.1, fun e_ => e_.elim (fun h_ => hk.1.2 h_) (fun h_ => hk.2 h_)⟩)))
              (case aS => exact (below_size (by repeat (first | (with_reducible first | exact HB.out | apply below_alloc | apply pw_below_drewN | apply below_drew1 | refine below_set ?_ GE646.out) | exact HB.out))))
              (case aL => have := LMc7.out; omega)
              intro v654 w16 ho hb hg hat
              rw [← Ny653.out] at ho
              have n0_ := Aside0.mk (blk_grown (g := gb646) (o := .cells #[.slice A645_0 ((rd_T53 l0 x8_1).f0).length c645_0, .slice A645_1 ((rd_T53 l0 x8_1).f1).length c645_1] 53 (0, 0)) (by (with_reducible repeat (first | refine blk_drewN ?_ _ | refine blk_drew ?_ | refine blk_alloc ?_ _)); exact BK646.out) hg (Kd.S_away HO_3.out (fun _ hk => hk.1.1)))
              have n1_ := Aside0.mk (hb)
              have n2_ := Aside0.mk (ho)
              clear BK646
              clear HB
              clear HO_3
              clear HO649
              clear HO652
              have BK646 := n0_
              have HB := n1_
              have HO655 := n2_
              clear n0_ n1_ n2_
              clear ho hb hg hat
              refine hK.out _ _ ⟨(blk_cell BK646.out 0).trans rfl, (blk_cell BK646.out 1).trans rfl⟩ (fun hHeld => ?_)
              clear hK K
              refine norm_ (a' := ?_) ?_ ?_
              rotate_left
              · show Act.put _ (some 21) _ = _
                simp only [Act.put, List.setIfInBounds_toArray, List.set_cons_zero, List.set_cons_succ, i64_w, i32_w]
                rfl
              refine pure_ (i := 10) (N := some 3) (v := ?_) (a' := ?_) #[true, true, true, true, true, true, true, true, true, true, true] rfl rfl (any_of HT_.out (by kernel_rfl)) (fun _ _ _ h => h) (Or.inl ⟨by rfl, ?_⟩) ?_ ?_
              rotate_left
              · intro w'
                go_simp
                with_reducible rfl
              rotate_left
              · simp only [Act.put, List.setIfInBounds_toArray, List.set_cons_zero, List.set_cons_succ, i64_w, i32_w]
                rfl
              refine done_ (done_of HT_.out (by kernel_rfl)) ?_
              try go_wp2
              go_roundg k1
              case measure => have := HK1.out; omega
              case rel => exact ⟨(y653), (wrap64 (x8_1 + 1)), (by first | rfl | (simp; done) | (simp [*]; done)), H', ⟨by have := HK1.out; omega⟩, ⟨by (with_reducible repeat (first | apply Kd.S_alloc | apply Kd.S_drewN | apply Kd.S_drew)); exact Kd.S_mono HO655.out (fun _ hk => trivial)⟩, ⟨by repeat (first | (with_reducible first | exact HB.out | apply below_alloc | apply pw_below_drewN | apply below_drew1 | refine below_set ?_ GE646.out) | exact HB.out)⟩⟩
            · rw [if_neg c7] at H
              exact absurd H (by simp)
          · rw [if_neg c4] at H
            exact absurd H (by simp)
        · rw [if_neg c3] at H
          exact absurd H (by simp)
      · rw [if_neg c2] at H
        have c2b0 : decide (x8_1 < (l0.length : Int)) = false := decide_eq_false c2
        clear c2
        obtain rfl := Option.some.inj H
        go_wp2
        go_ret
        exact ⟨_, by first | rfl | (simp [errW_none, errW_some] <;> rfl) | (simp [*, errW_none, errW_some] <;> rfl), by (with_reducible repeat (first | apply Kd.S_alloc | apply Kd.S_drewN | apply Kd.S_drew)); exact HO_3.out, by repeat (first | (with_reducible first | exact HB.out | apply below_alloc | apply pw_below_drewN | apply below_drew1) | exact HB.out)⟩

end Go.Proofs.Ytdbeochifofdoaa.X
end

section
-- Written by a program of this session (wip/hook.py, which runs the kit's print.py with contracts proved by hand). Not trusted: Lean checks it.
namespace Go.Proofs.Ytdbeochifofdoaa.X
open Go.RowKit Go.Proofs.YtdbeochifofdoaaW.PrintWords Go.Proofs.YtdbeochifofdoaaW.PrintLast Go.Proofs.YtdbeochifofdoaaW.PrintMore
attribute [local go_sem] max2_int min2_int max_two min_two max_three min_three max_four min_four   -- for this text's walks alone
set_option linter.unusedVariables false
set_option linter.unusedSimpArgs false

/-! ### cmp_Less_int: function 131 -/
def cmp_Less_int.f (a0 : Int) (a1 : Int) : Option (Bool) := (cmp_isNaN_int.f a0).bind fun t709 => (if t709 = true then ((cmp_isNaN_int.f a1).bind fun t710 => (if t710 = true then (some (decide (a0 < a1))) else (some true))) else (some (decide (a0 < a1))))
set_option maxHeartbeats 8000000 in
set_option maxRecDepth 100000 in
theorem cmp_Less_int.calls (a0 : Int) (a1 : Int) (r : Bool) (w : World) (h : cmp_Less_int.f a0 a1 = some r) :
    Calls Try.prog 131 #[.int .i64 a0, .int .i64 a1] w fun e w' => e = .returned (.bool r) ∧ Drawn0 w w' := by
  have H : ((cmp_isNaN_int.f a0).bind fun t709 => (if t709 = true then ((cmp_isNaN_int.f a1).bind fun t710 => (if t710 = true then (some (decide (a0 < a1))) else (some true))) else (some (decide (a0 < a1))))) = some r := h
  clear h
  replace H := Option.bind_eq_some_iff.mp H
  obtain ⟨t709, A30, H⟩ := H
  replace H : (if t709 = true then ((cmp_isNaN_int.f a1).bind fun t710 => (if t710 = true then (some (decide (a0 < a1))) else (some true))) else (some (decide (a0 < a1)))) = some r := H
  have A3 := Aside0.mk A30
  clear A30
  by_cases c4 : t709 = true
  · subst c4
    have H1 : ((cmp_isNaN_int.f a1).bind fun t710 => (if t710 = true then (some (decide (a0 < a1))) else (some true))) = some r := by rw [if_pos rfl] at H; exact H
    clear H
    have H := H1
    clear H1
    replace H := Option.bind_eq_some_iff.mp H
    obtain ⟨t710, A50, H⟩ := H
    replace H : (if t710 = true then (some (decide (a0 < a1))) else (some true)) = some r := H
    have A5 := Aside0.mk A50
    clear A50
    by_cases c6 : t710 = true
    · subst c6
      have H1 : (some (decide (a0 < a1))) = some r := by rw [if_pos rfl] at H; exact H
      clear H
      have H := H1
      clear H1
      obtain rfl := Option.some.inj H
      go_enter Try.func131, Try.ntmps131
      go_wp2_with (first | ((with_reducible refine gate_callee (f := 141) rfl ?_); refine goesL_ (some 6) rfl rfl Try.func141 (by kernel_rfl) rfl #[.int .i64 a0] rfl (by (try simp only [List.map_toArray, List.map_cons, List.map_nil]); first | done | rfl | (simp only [List.length_drop, List.length_take]; rfl)) ?_; (with_reducible refine (cmp_isNaN_int.calls a0 true _ A3.out).mono ?_); rintro e w' ⟨rfl, ⟨nd, rfl⟩⟩; refine ⟨_, rfl, ?_⟩) | (go_at_call 141; (with_reducible refine (cmp_isNaN_int.calls a1 true _ A5.out).mono ?_); rintro e w' ⟨rfl, ⟨nd, rfl⟩⟩))
      go_ret
      exact ⟨by first | rfl | (simp; done) | (simp [*]; done), by repeat (first | exact Drawn0.refl _ | apply Drawn0.step)⟩
    · replace c6 := Bool.eq_false_iff.mpr c6
      subst c6
      have H1 : (some true) = some r := by rw [if_neg (show ¬ (false = true) by decide)] at H; exact H
      clear H
      have H := H1
      clear H1
      obtain rfl := Option.some.inj H
      go_enter Try.func131, Try.ntmps131
      go_wp2_with (first | ((with_reducible refine gate_callee (f := 141) rfl ?_); refine goesL_ (some 6) rfl rfl Try.func141 (by kernel_rfl) rfl #[.int .i64 a0] rfl (by (try simp only [List.map_toArray, List.map_cons, List.map_nil]); first | done | rfl | (simp only [List.length_drop, List.length_take]; rfl)) ?_; (with_reducible refine (cmp_isNaN_int.calls a0 true _ A3.out).mono ?_); rintro e w' ⟨rfl, ⟨nd, rfl⟩⟩; refine ⟨_, rfl, ?_⟩) | (go_at_call 141; (with_reducible refine (cmp_isNaN_int.calls a1 false _ A5.out).mono ?_); rintro e w' ⟨rfl, ⟨nd, rfl⟩⟩))
      go_ret
      exact ⟨by first | rfl | (simp; done) | (simp [*]; done), by repeat (first | exact Drawn0.refl _ | apply Drawn0.step)⟩
  · replace c4 := Bool.eq_false_iff.mpr c4
    subst c4
    have H1 : (some (decide (a0 < a1))) = some r := by rw [if_neg (show ¬ (false = true) by decide)] at H; exact H
    clear H
    have H := H1
    clear H1
    obtain rfl := Option.some.inj H
    go_enter Try.func131, Try.ntmps131
    go_wp2_with (first | ((with_reducible refine gate_callee (f := 141) rfl ?_); refine goesL_ (some 6) rfl rfl Try.func141 (by kernel_rfl) rfl #[.int .i64 a0] rfl (by (try simp only [List.map_toArray, List.map_cons, List.map_nil]); first | done | rfl | (simp only [List.length_drop, List.length_take]; rfl)) ?_; (with_reducible refine (cmp_isNaN_int.calls a0 false _ A3.out).mono ?_); rintro e w' ⟨rfl, ⟨nd, rfl⟩⟩; refine ⟨_, rfl, ?_⟩))
    go_ret
    exact ⟨by first | rfl | (simp; done) | (simp [*]; done), by repeat (first | exact Drawn0.refl _ | apply Drawn0.step)⟩

end Go.Proofs.Ytdbeochifofdoaa.X
end
