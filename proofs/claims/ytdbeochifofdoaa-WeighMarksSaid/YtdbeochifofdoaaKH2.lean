/- The law WeighMarks of the given program: the marks of the lots; the plan is made of them again.
Its conditions: none beyond the statement's own. Part 3 of 6 of the proof. -/
import Derived.Handy
import Derived.WalkSpells
import Derived.Deep.QuietTactic
import Derived.Shelf.Abstract
import Derived.Test.YtdbeochifofdoaaKH1
section
/-! verditerref06.isSet. -/
namespace Go.Proofs.Ytdbeochifofdoaa.X
open Go.RowKit Go.Proofs.YtdbeochifofdoaaW.PrintWords Go.Proofs.YtdbeochifofdoaaW.PrintLast Go.Proofs.YtdbeochifofdoaaW.PrintMore
set_option linter.unusedVariables false
set_option linter.unusedSimpArgs false

def verditerref06_isSet.f (k : Nat) (l0 : List Int) (a1 : Int) : Option Bool := if 1 ≤ a1 ∧ a1 ≤ 13 then some (isSetB a1 l0) else none
theorem verditerref06_isSet.mono : ∀ a0 a1 k, LeO (verditerref06_isSet.f k a0 a1) (verditerref06_isSet.f (k + 1) a0 a1) := fun _ _ _ => LeO.refl _
theorem rwithin_b (a b c : Int) : verditerref06_within.f a b c = some (decide (b ≤ a) && decide (a ≤ c)) := by
  unfold verditerref06_within.f
  by_cases h : a ≥ b
  · rw [if_pos h]; simp [h]
  · rw [if_neg h]; simp [show ¬ b ≤ a from h]

set_option maxHeartbeats 4000000 in
set_option maxRecDepth 100000 in
theorem verditerref06_isSet.calls (k : Nat) (A0 : Option Addr) (c0 : Nat) (l0 : List Int) (a1 : Int) (r : Bool) (w : World) (hr0 : Kd.C (Kd.int .i64) w A0 l0.length l0) (hc0 : l0.length ≤ c0) (h : verditerref06_isSet.f k l0 a1 = some r) :
    Calls Try.prog 100 #[.slice A0 l0.length c0, .int .i64 a1] w fun e w' => e = .returned (.bool r) ∧ Drawn0 w w' := by
  unfold verditerref06_isSet.f at h
  by_cases hp : 1 ≤ a1 ∧ a1 ≤ 13
  rotate_left
  · rw [if_neg hp] at h; cases h
  rw [if_pos hp] at h
  obtain rfl := Option.some.inj h
  clear h
  have hp1 := hp.1
  have hp2 := hp.2
  have hmx := Kd.C_max hr0
  have HR := Aside0.mk hr0
  clear hr0 hp
  have hwa : IntKind.i64.wrap (a1 - 1) = a1 - 1 := (i64_w _).trans (wr_of (by omega) (by omega))
  go_enter Try.func100, Try.ntmps100
  go_wp2
  go_loopg [5] l0.length (fun gg s wr => ∃ i : Nat, i ≤ l0.length ∧ l0.length - i ≤ gg ∧ s = .int .i64 i ∧ Aside0 (∃ n, wr = w.drewN n) ∧ Aside0 (setFrom a1 (prevOf l0 i) (l0.drop i) = isSetB a1 l0))
  case atStart => exact ⟨0, by omega, by omega, rfl, ⟨⟨0, rfl⟩⟩, ⟨rfl⟩⟩
  case round =>
    obtain ⟨i, hi, hg, rfl, BW, SV⟩ := hrel
    obtain ⟨n, rfl⟩ := BW.out
    clear BW
    by_cases hlt : i < l0.length
    · have hltz : (i : Int) < (l0.length : Int) := by omega
      obtain ⟨ad, e1, hx⟩ := Kd.at_int HR.out i (by omega) hltz
      subst e1
      simp only [Int.toNat_natCast] at hx
      rw [rd_nat] at hx
      have SV2 : Aside0 ((((decide (0 ≤ l0.getD i 0) && decide (l0.getD i 0 ≤ a1 - 1)) && aboveB (prevOf l0 i) (l0.getD i 0)) && setFrom a1 (some (l0.getD i 0)) (l0.drop (i + 1))) = isSetB a1 l0) := ⟨by rw [← SV.out, dropD 0 l0 i hlt]; rfl⟩
      have PN : Aside0 (prevOf l0 (i + 1) = some (l0.getD i 0)) := ⟨by unfold prevOf; rw [if_neg (by omega)]; rfl⟩
      clear SV
      have HWF := Aside0.mk (rwithin_b (l0.getD i 0) 0 (a1 - 1))
      cases hb : (decide (0 ≤ l0.getD i 0) && decide (l0.getD i 0 ≤ a1 - 1)) with
      | false =>
        rw [hb] at HWF SV2
        clear hb
        generalize l0.getD i 0 = x at *
        go_wp2
        go_quiet (first | (go_at_call 82; (with_reducible refine (verditerref06_within.calls x 0 (a1 - 1) false _ HWF.out).mono ?_); rintro e w' ⟨rfl, ⟨nd, rfl⟩⟩; (first | exact ⟨rfl, _, World.drewN_drewN _ _ _⟩ | exact ⟨rfl, _, Eq.trans (World.drewN_drewN _ _ _) (congrArg (World.drewN _) (Nat.add_assoc _ _ _))⟩)))
        go_wp2
        go_ret
        have hz : isSetB a1 l0 = false := by rw [← SV2.out]; rfl
        exact ⟨by rw [hz]; rfl, ⟨_, by first | rfl | exact World.drewN_drewN _ _ _⟩⟩
      | true =>
        rw [hb] at HWF SV2
        clear hb
        by_cases hi0 : i = 0
        · subst hi0
          rw [show ad.add 0 = ad from by cases ad; rfl] at hx
          have AB : Aside0 (setFrom a1 (prevOf l0 1) (l0.drop 1) = isSetB a1 l0) := ⟨by rw [← SV2.out, PN.out]; rfl⟩
          clear SV2 PN
          generalize l0.getD 0 0 = x at *
          go_wp2
          go_quiet (first | (go_at_call 82; (with_reducible refine (verditerref06_within.calls x 0 (a1 - 1) true _ HWF.out).mono ?_); rintro e w' ⟨rfl, ⟨nd, rfl⟩⟩; (first | exact ⟨rfl, _, World.drewN_drewN _ _ _⟩ | exact ⟨rfl, _, Eq.trans (World.drewN_drewN _ _ _) (congrArg (World.drewN _) (Nat.add_assoc _ _ _))⟩)))
          go_wp2
          go_roundg (l0.length - 1)
          case measure => omega
          case rel => exact ⟨1, by omega, by omega, by go_num, ⟨⟨_, by first | rfl | exact World.drewN_drewN _ _ _⟩⟩, AB⟩
        · have h0n : 0 < i := by omega
          have h0z : (0 : Int) < (i : Int) := by omega
          have h1z : (0 : Int) ≤ (i : Int) - 1 := by omega
          have h2z : (i : Int) - 1 < (l0.length : Int) := by omega
          have h3z : ((i : Int) - 1).toNat = i - 1 := by omega
          have hwi : IntKind.i64.wrap ((i : Int) - 1) = (i : Int) - 1 := (i64_w _).trans (wr_of (by omega) (by omega))
          obtain ⟨bd, e2, hy⟩ := Kd.at_int HR.out ((i : Int) - 1) h1z h2z
          cases e2
          rw [h3z, show rd l0 ((i : Int) - 1) = l0.getD (i - 1) 0 by unfold rd; rw [h3z]] at hy
          have SV3 : Aside0 ((decide (l0.getD (i - 1) 0 < l0.getD i 0) && setFrom a1 (some (l0.getD i 0)) (l0.drop (i + 1))) = isSetB a1 l0) := ⟨by rw [← SV2.out, show prevOf l0 i = some (l0.getD (i - 1) 0) by unfold prevOf; rw [if_neg hi0]]; rfl⟩
          by_cases hlt2 : l0.getD (i - 1) 0 < l0.getD i 0
          · have AB : Aside0 (setFrom a1 (prevOf l0 (i + 1)) (l0.drop (i + 1)) = isSetB a1 l0) := ⟨by rw [← SV3.out, PN.out, decide_eq_true hlt2]; rfl⟩
            clear SV2 SV3 PN
            generalize l0.getD i 0 = x at *
            generalize l0.getD (i - 1) 0 = y at *
            have hle : ¬ x ≤ y := by omega
            go_wp2
            go_quiet (first | (go_at_call 82; (with_reducible refine (verditerref06_within.calls x 0 (a1 - 1) true _ HWF.out).mono ?_); rintro e w' ⟨rfl, ⟨nd, rfl⟩⟩; (first | exact ⟨rfl, _, World.drewN_drewN _ _ _⟩ | exact ⟨rfl, _, Eq.trans (World.drewN_drewN _ _ _) (congrArg (World.drewN _) (Nat.add_assoc _ _ _))⟩)))
            go_wp2
            go_roundg (l0.length - (i + 1))
            case measure => omega
            case rel => exact ⟨i + 1, by omega, by omega, by go_num, ⟨⟨_, by first | rfl | exact World.drewN_drewN _ _ _⟩⟩, AB⟩
          · have AB : Aside0 (isSetB a1 l0 = false) := ⟨by rw [← SV3.out, decide_eq_false hlt2]; rfl⟩
            clear SV2 SV3 PN
            generalize l0.getD i 0 = x at *
            generalize l0.getD (i - 1) 0 = y at *
            have hle : x ≤ y := by omega
            go_wp2
            go_quiet (first | (go_at_call 82; (with_reducible refine (verditerref06_within.calls x 0 (a1 - 1) true _ HWF.out).mono ?_); rintro e w' ⟨rfl, ⟨nd, rfl⟩⟩; (first | exact ⟨rfl, _, World.drewN_drewN _ _ _⟩ | exact ⟨rfl, _, Eq.trans (World.drewN_drewN _ _ _) (congrArg (World.drewN _) (Nat.add_assoc _ _ _))⟩)))
            go_wp2
            go_ret
            have hz := AB.out
            exact ⟨by rw [hz]; rfl, ⟨_, by first | rfl | exact World.drewN_drewN _ _ _⟩⟩
    · have hltz : ¬ (i : Int) < (l0.length : Int) := by omega
      have AB : Aside0 (isSetB a1 l0 = true) := ⟨by rw [← SV.out, List.drop_eq_nil_of_le (by omega)]; rfl⟩
      clear SV
      go_wp2
      go_ret
      have hz := AB.out
      exact ⟨by rw [hz]; rfl, ⟨_, rfl⟩⟩
end Go.Proofs.Ytdbeochifofdoaa.X
end

section
-- Written by a program of this session (wip/hook.py, which runs the kit's print.py with contracts proved by hand). Not trusted: Lean checks it.
namespace Go.Proofs.Ytdbeochifofdoaa.X
open Go.RowKit Go.Proofs.YtdbeochifofdoaaW.PrintWords Go.Proofs.YtdbeochifofdoaaW.PrintLast Go.Proofs.YtdbeochifofdoaaW.PrintMore
attribute [local go_sem] max2_int min2_int max_two min_two max_three min_three max_four min_four   -- for this text's walks alone
set_option linter.unusedVariables false
set_option linter.unusedSimpArgs false

/-! ### verditerref06_Validate: function 59 -/
mutual
def verditerref06_Validate.l0 : Nat → Int → List (S53) → Int → Option (Int)
  | 0, _, _, _ => none
  | k + 1, x0, x1, x5 => if x5 < (x1.length : Int) then (if 0 ≤ x5 then ((verditerref06_isSet.f k ((rd_T53 x1 x5).f0) x0).bind fun t186 => (if t186 = true then ((verditerref06_isSet.f k ((rd_T53 x1 x5).f1) x0).bind fun t188 => (verditerref06_Validate.j1 k x0 x1 x5 (!t188))) else (verditerref06_Validate.j1 k x0 x1 x5 true))) else (none)) else (some 0)
def verditerref06_Validate.j1 : Nat → Int → List (S53) → Int → Bool → Option (Int)
  | 0, _, _, _, _ => none
  | k + 1, x0, x1, x5, x36 => if x36 = true then (some 1) else (verditerref06_Validate.l1 k x0 x1 x5 0)
def verditerref06_Validate.l1 : Nat → Int → List (S53) → Int → Int → Option (Int)
  | 0, _, _, _, _ => none
  | k + 1, x0, x1, x5, x6 => if 0 ≤ x5 then (if x5 < (x1.length : Int) then (if x6 < (((rd_T53 x1 x5).f0).length : Int) then (if 0 ≤ x6 then ((verditerref06_has.f k ((rd_T53 x1 x5).f1) (rd ((rd_T53 x1 x5).f0) x6)).bind fun t193 => (if t193 = true then (some 6) else (verditerref06_Validate.l1 k x0 x1 x5 (wrap64 (x6 + 1))))) else (none)) else (if (((rd_T53 x1 x5).f0).length : Int) = (((rd_T53 x1 x5).f1).length : Int) then (verditerref06_Validate.l0 k x0 x1 (wrap64 (x5 + 1))) else (some 5))) else (none)) else (none)
end
def verditerref06_Validate.f (k : Nat) (a0 : Int) (l1 : List (S53)) : Option (Int) := (verditerref06_within.f a0 1 13).bind fun t184 => (if t184 = true then (if (l1.length : Int) > 3 then (some 3) else (verditerref06_Validate.l0 k a0 l1 0)) else (some 1))
theorem verditerref06_Validate.mono_l : ∀ k, (∀ y0 y1 y2, LeO (verditerref06_Validate.l0 k y0 y1 y2) (verditerref06_Validate.l0 (k + 1) y0 y1 y2)) ∧ (∀ y0 y1 y2 y3, LeO (verditerref06_Validate.j1 k y0 y1 y2 y3) (verditerref06_Validate.j1 (k + 1) y0 y1 y2 y3)) ∧ (∀ y0 y1 y2 y3, LeO (verditerref06_Validate.l1 k y0 y1 y2 y3) (verditerref06_Validate.l1 (k + 1) y0 y1 y2 y3))
  | 0 => ⟨fun _ _ _ r h => by simp [verditerref06_Validate.l0] at h, fun _ _ _ _ r h => by simp [verditerref06_Validate.j1] at h, fun _ _ _ _ r h => by simp [verditerref06_Validate.l1] at h⟩
  | k + 1 => by
    obtain ⟨ih0, ih1, ih2⟩ := verditerref06_Validate.mono_l k
    refine ⟨?_, ?_, ?_⟩
    · intro y0 y1 y2
      unfold verditerref06_Validate.l0
      repeat' first
      | (with_reducible exact ih0 _ _ _)
      | (with_reducible exact ih1 _ _ _ _)
      | (with_reducible exact ih2 _ _ _ _)
      | (with_reducible exact verditerref06_has.mono _ _ _)
      | (with_reducible exact verditerref06_isSet.mono _ _ _)
      | (with_reducible exact LeO.refl _)
      | (with_reducible exact LeO.none _)
      | (with_reducible refine LeO.ite ?_ ?_)
      | (with_reducible refine LeO.bind ?_ (fun _ => ?_))
      | exact ih0 _ _ _
      | exact ih1 _ _ _ _
      | exact ih2 _ _ _ _
      | exact verditerref06_has.mono _ _ _
      | exact verditerref06_isSet.mono _ _ _
      | exact LeO.none _
      | refine LeO.ite ?_ ?_
      | refine LeO.bind ?_ (fun _ => ?_)
    · intro y0 y1 y2 y3
      unfold verditerref06_Validate.j1
      repeat' first
      | (with_reducible exact ih0 _ _ _)
      | (with_reducible exact ih1 _ _ _ _)
      | (with_reducible exact ih2 _ _ _ _)
      | (with_reducible exact verditerref06_has.mono _ _ _)
      | (with_reducible exact verditerref06_isSet.mono _ _ _)
      | (with_reducible exact LeO.refl _)
      | (with_reducible exact LeO.none _)
      | (with_reducible refine LeO.ite ?_ ?_)
      | (with_reducible refine LeO.bind ?_ (fun _ => ?_))
      | exact ih0 _ _ _
      | exact ih1 _ _ _ _
      | exact ih2 _ _ _ _
      | exact verditerref06_has.mono _ _ _
      | exact verditerref06_isSet.mono _ _ _
      | exact LeO.none _
      | refine LeO.ite ?_ ?_
      | refine LeO.bind ?_ (fun _ => ?_)
    · intro y0 y1 y2 y3
      unfold verditerref06_Validate.l1
      repeat' first
      | (with_reducible exact ih0 _ _ _)
      | (with_reducible exact ih1 _ _ _ _)
      | (with_reducible exact ih2 _ _ _ _)
      | (with_reducible exact verditerref06_has.mono _ _ _)
      | (with_reducible exact verditerref06_isSet.mono _ _ _)
      | (with_reducible exact LeO.refl _)
      | (with_reducible exact LeO.none _)
      | (with_reducible refine LeO.ite ?_ ?_)
      | (with_reducible refine LeO.bind ?_ (fun _ => ?_))
      | exact ih0 _ _ _
      | exact ih1 _ _ _ _
      | exact ih2 _ _ _ _
      | exact verditerref06_has.mono _ _ _
      | exact verditerref06_isSet.mono _ _ _
      | exact LeO.none _
      | refine LeO.ite ?_ ?_
      | refine LeO.bind ?_ (fun _ => ?_)
theorem verditerref06_Validate.mono : ∀ a0 a1 k, LeO (verditerref06_Validate.f k a0 a1) (verditerref06_Validate.f (k + 1) a0 a1) := by
  intro a0 a1 k
  obtain ⟨ih0, ih1, ih2⟩ := verditerref06_Validate.mono_l k
  unfold verditerref06_Validate.f
  repeat' first
      | (with_reducible exact ih0 _ _ _)
      | (with_reducible exact ih1 _ _ _ _)
      | (with_reducible exact ih2 _ _ _ _)
      | (with_reducible exact verditerref06_has.mono _ _ _)
      | (with_reducible exact verditerref06_isSet.mono _ _ _)
      | (with_reducible exact LeO.refl _)
      | (with_reducible exact LeO.none _)
      | (with_reducible refine LeO.ite ?_ ?_)
      | (with_reducible refine LeO.bind ?_ (fun _ => ?_))
      | exact ih0 _ _ _
      | exact ih1 _ _ _ _
      | exact ih2 _ _ _ _
      | exact verditerref06_has.mono _ _ _
      | exact verditerref06_isSet.mono _ _ _
      | exact LeO.none _
      | refine LeO.ite ?_ ?_
      | refine LeO.bind ?_ (fun _ => ?_)
set_option maxHeartbeats 8000000 in
set_option maxRecDepth 100000 in
theorem verditerref06_Validate.calls (k : Nat) (a0 : Int) (A1 : Option Addr) (c1 : Nat) (l1 : List (S53)) (r : Int) (w : World) (hr1 : Kd.C k53 w A1 l1.length l1) (hc1 : l1.length ≤ c1) (h : verditerref06_Validate.f k a0 l1 = some r) :
    Calls Try.prog 59 #[.int .i64 a0, .slice A1 l1.length c1] w fun e w' => e = .returned (.int .i64 r) ∧ Drawn0 w w' := by
  have HR1 := Aside0.mk hr1
  have HC1 := Aside0.mk hc1
  clear hr1 hc1
  have H : ((verditerref06_within.f a0 1 13).bind fun t184 => (if t184 = true then (if (l1.length : Int) > 3 then (some 3) else (verditerref06_Validate.l0 k a0 l1 0)) else (some 1))) = some r := h
  clear h
  replace H := Option.bind_eq_some_iff.mp H
  obtain ⟨t184, A30, H⟩ := H
  replace H : (if t184 = true then (if (l1.length : Int) > 3 then (some 3) else (verditerref06_Validate.l0 k a0 l1 0)) else (some 1)) = some r := H
  have A3 := Aside0.mk A30
  clear A30
  by_cases c4 : t184 = true
  · subst c4
    have H1 : (if (l1.length : Int) > 3 then (some 3) else (verditerref06_Validate.l0 k a0 l1 0)) = some r := by rw [if_pos rfl] at H; exact H
    clear H
    have H := H1
    clear H1
    by_cases c5 : (l1.length : Int) > 3
    · rw [if_pos c5] at H
      have c5b0 : decide (3 < (l1.length : Int)) = true := decide_eq_true c5
      have c5b1 : decide (3 < l1.length) = true := decide_eq_true (by omega)
      clear c5
      obtain rfl := Option.some.inj H
      go_enter Try.func59, Try.ntmps59
      go_wp2_with (first | (go_at_call 82; (with_reducible refine (verditerref06_within.calls a0 1 13 true _ A3.out).mono ?_); rintro e w' ⟨rfl, ⟨nd, rfl⟩⟩; (try first | exact ⟨rfl, _, World.drewN_drewN _ _ _⟩ | exact ⟨rfl, _, Eq.trans (World.drewN_drewN _ _ _) (congrArg (World.drewN _) (Nat.add_assoc _ _ _))⟩)))
      repeat (go_quiet (first | (go_at_call 82; (with_reducible refine (verditerref06_within.calls a0 1 13 true _ A3.out).mono ?_); rintro e w' ⟨rfl, ⟨nd, rfl⟩⟩; (try first | exact ⟨rfl, _, World.drewN_drewN _ _ _⟩ | exact ⟨rfl, _, Eq.trans (World.drewN_drewN _ _ _) (congrArg (World.drewN _) (Nat.add_assoc _ _ _))⟩))); try go_wp2_with (first | (go_at_call 82; (with_reducible refine (verditerref06_within.calls a0 1 13 true _ A3.out).mono ?_); rintro e w' ⟨rfl, ⟨nd, rfl⟩⟩; (try first | exact ⟨rfl, _, World.drewN_drewN _ _ _⟩ | exact ⟨rfl, _, Eq.trans (World.drewN_drewN _ _ _) (congrArg (World.drewN _) (Nat.add_assoc _ _ _))⟩))))
      go_ret
      exact ⟨by first | rfl | (simp; done) | (simp [*]; done), by repeat (first | exact Drawn0.refl _ | apply Drawn0.step)⟩
    · rw [if_neg c5] at H
      have c5b0 : decide (3 < (l1.length : Int)) = false := decide_eq_false c5
      have c5b1 : decide (3 < l1.length) = false := decide_eq_false (by omega)
      clear c5
      have H' := Aside0.mk H
      clear H
      go_enter Try.func59, Try.ntmps59
      go_wp2_with (first | (go_at_call 82; (with_reducible refine (verditerref06_within.calls a0 1 13 true _ A3.out).mono ?_); rintro e w' ⟨rfl, ⟨nd, rfl⟩⟩; (try first | exact ⟨rfl, _, World.drewN_drewN _ _ _⟩ | exact ⟨rfl, _, Eq.trans (World.drewN_drewN _ _ _) (congrArg (World.drewN _) (Nat.add_assoc _ _ _))⟩)))
      repeat (go_quiet (first | (go_at_call 82; (with_reducible refine (verditerref06_within.calls a0 1 13 true _ A3.out).mono ?_); rintro e w' ⟨rfl, ⟨nd, rfl⟩⟩; (try first | exact ⟨rfl, _, World.drewN_drewN _ _ _⟩ | exact ⟨rfl, _, Eq.trans (World.drewN_drewN _ _ _) (congrArg (World.drewN _) (Nat.add_assoc _ _ _))⟩))); try go_wp2_with (first | (go_at_call 82; (with_reducible refine (verditerref06_within.calls a0 1 13 true _ A3.out).mono ?_); rintro e w' ⟨rfl, ⟨nd, rfl⟩⟩; (try first | exact ⟨rfl, _, World.drewN_drewN _ _ _⟩ | exact ⟨rfl, _, Eq.trans (World.drewN_drewN _ _ _) (congrArg (World.drewN _) (Nat.add_assoc _ _ _))⟩))))
      go_loopg [5] k (fun kq v5 w' => ∃ (x5_1 : Int), v5 = .int .i64 x5_1 ∧ Aside0 (verditerref06_Validate.l0 kq a0 l1 x5_1 = some r) ∧ Aside0 (kq ≤ k) ∧ Drawn0 w w')
      case atStart => exact ⟨(0), (by first | rfl | (simp; done) | (simp [*]; done)), H', ⟨Nat.le_refl _⟩, by repeat (first | exact Drawn0.refl _ | apply Drawn0.step)⟩
      case round =>
        clear H'
        try clear c1
        try clear p2
        try clear c4
        try clear c5
        try clear c5b0
        try clear c5b1
        obtain ⟨x5_1, rfl, HA, HK1, ⟨m1, rfl⟩⟩ := hrel
        cases gk with
        | zero => exact absurd HA.out (by simp [verditerref06_Validate.l0])
        | succ k1 =>
          have H := HA.out
          clear HA
          simp only [verditerref06_Validate.l0] at H
          by_cases c6 : x5_1 < (l1.length : Int)
          · rw [if_pos c6] at H
            have c6b0 : decide (x5_1 < (l1.length : Int)) = true := decide_eq_true c6
            clear c6
            have HC7 := Aside0.mk H
            clear H
            go_upto_region 8 with (fail)
            repeat (go_quiet (fail); go_upto_region 8 with (fail))
            go_cut [36] (fun v36 wc => ∃ (kq : Nat) (x36_6 : Bool), v36 = .bool x36_6 ∧ Aside0 (verditerref06_Validate.j1 kq a0 l1 x5_1 x36_6 = some r) ∧ Aside0 (kq ≤ k1) ∧ Drawn0 w wc)
            case first =>
              have H := HC7.out
              clear HC7
              by_cases c8 : 0 ≤ x5_1
              · rw [if_pos c8] at H
                have c8b0 : decide (0 ≤ x5_1) = true := decide_eq_true c8
                clear c8
                (first | rw [c8b0] | (simp only [i64_w, i32_w]; rw [c8b0]) | skip)
                replace H := Option.bind_eq_some_iff.mp H
                obtain ⟨t186, A90, H⟩ := H
                replace H : (if t186 = true then ((verditerref06_isSet.f k1 ((rd_T53 l1 x5_1).f1) a0).bind fun t188 => (verditerref06_Validate.j1 k1 a0 l1 x5_1 (!t188))) else (verditerref06_Validate.j1 k1 a0 l1 x5_1 true)) = some r := H
                have A9 := Aside0.mk A90
                clear A90
                by_cases c10 : t186 = true
                · subst c10
                  have H1 : ((verditerref06_isSet.f k1 ((rd_T53 l1 x5_1).f1) a0).bind fun t188 => (verditerref06_Validate.j1 k1 a0 l1 x5_1 (!t188))) = some r := by rw [if_pos rfl] at H; exact H
                  clear H
                  have H := H1
                  clear H1
                  replace H := Option.bind_eq_some_iff.mp H
                  obtain ⟨t188, A110, H⟩ := H
                  replace H : (verditerref06_Validate.j1 k1 a0 l1 x5_1 (!t188)) = some r := H
                  have A11 := Aside0.mk A110
                  clear A110
                  have H' := Aside0.mk H
                  clear H
                  have p185 : 0 ≤ (x5_1 : Int) := of_decide_eq_true (by first | (with_reducible assumption) | assumption)
                  have q185 : x5_1 < (l1.length : Int) := of_decide_eq_true (by first | (with_reducible assumption) | assumption)
                  obtain ⟨ad185, A185_0, c185_0, A185_1, c185_1, e185, hx185_0, hx185_1, hl185_0, hi185_0, hl185_1, hi185_1⟩ := at_T53 HR1.out x5_1 p185 q185
                  cases e185
                  have HR185_0 := Aside0.mk hi185_0
                  have HC185_0 := Aside0.mk hl185_0
                  clear hi185_0 hl185_0
                  have HR185_1 := Aside0.mk hi185_1
                  have HC185_1 := Aside0.mk hl185_1
                  clear hi185_1 hl185_1
                  replace p185 := eq_true p185
                  replace q185 := eq_true q185
                  go_wp2_with (first | (go_at_call 100; (with_reducible refine (verditerref06_isSet.calls k1 _ _ ((rd_T53 l1 x5_1).f0) a0 true _ ?side1 ?side2 A9.out).mono ?_); (case side1 => repeat (first | exact HR185_0.out | (with_reducible refine Kd.C_alloc ?_ _) | (with_reducible refine Kd.C_drewN ?_ _) | (with_reducible refine Kd.C_drew ?_))); (case side2 => exact HC185_0.out); rintro e w' ⟨rfl, ⟨nd, rfl⟩⟩; (try first | exact ⟨rfl, _, World.drewN_drewN _ _ _⟩ | exact ⟨rfl, _, Eq.trans (World.drewN_drewN _ _ _) (congrArg (World.drewN _) (Nat.add_assoc _ _ _))⟩); have p187 : 0 ≤ (x5_1 : Int) := of_decide_eq_true (by first | (with_reducible assumption) | assumption); have q187 : x5_1 < (l1.length : Int) := of_decide_eq_true (by first | (with_reducible assumption) | assumption); obtain ⟨ad187, A187_0, c187_0, A187_1, c187_1, e187, hx187_0, hx187_1, hl187_0, hi187_0, hl187_1, hi187_1⟩ := at_T53 HR1.out x5_1 p187 q187; obtain rfl : ad185 = ad187 := (by injection e187); have HR187_0 := Aside0.mk hi187_0; have HC187_0 := Aside0.mk hl187_0; clear hi187_0 hl187_0; have HR187_1 := Aside0.mk hi187_1; have HC187_1 := Aside0.mk hl187_1; clear hi187_1 hl187_1; replace p187 := eq_true p187; replace q187 := eq_true q187; have ea_ := Option.some.inj (hx185_0.symm.trans hx187_0); injection ea_ with ea_ en_ ec_; subst ea_; subst ec_; clear en_; have ea_ := Option.some.inj (hx185_1.symm.trans hx187_1); injection ea_ with ea_ en_ ec_; subst ea_; subst ec_; clear en_) | (go_at_call 100; (with_reducible refine (verditerref06_isSet.calls k1 _ _ ((rd_T53 l1 x5_1).f1) a0 t188 _ ?side1 ?side2 A11.out).mono ?_); (case side1 => repeat (first | exact HR187_1.out | (with_reducible refine Kd.C_alloc ?_ _) | (with_reducible refine Kd.C_drewN ?_ _) | (with_reducible refine Kd.C_drew ?_))); (case side2 => exact HC187_1.out); rintro e w' ⟨rfl, ⟨nd, rfl⟩⟩; (try first | exact ⟨rfl, _, World.drewN_drewN _ _ _⟩ | exact ⟨rfl, _, Eq.trans (World.drewN_drewN _ _ _) (congrArg (World.drewN _) (Nat.add_assoc _ _ _))⟩)))
                  repeat (go_quiet (first | (go_at_call 100; (with_reducible refine (verditerref06_isSet.calls k1 _ _ ((rd_T53 l1 x5_1).f0) a0 true _ ?side1 ?side2 A9.out).mono ?_); (case side1 => repeat (first | exact HR185_0.out | (with_reducible refine Kd.C_alloc ?_ _) | (with_reducible refine Kd.C_drewN ?_ _) | (with_reducible refine Kd.C_drew ?_))); (case side2 => exact HC185_0.out); rintro e w' ⟨rfl, ⟨nd, rfl⟩⟩; (try first | exact ⟨rfl, _, World.drewN_drewN _ _ _⟩ | exact ⟨rfl, _, Eq.trans (World.drewN_drewN _ _ _) (congrArg (World.drewN _) (Nat.add_assoc _ _ _))⟩); have p187 : 0 ≤ (x5_1 : Int) := of_decide_eq_true (by first | (with_reducible assumption) | assumption); have q187 : x5_1 < (l1.length : Int) := of_decide_eq_true (by first | (with_reducible assumption) | assumption); obtain ⟨ad187, A187_0, c187_0, A187_1, c187_1, e187, hx187_0, hx187_1, hl187_0, hi187_0, hl187_1, hi187_1⟩ := at_T53 HR1.out x5_1 p187 q187; obtain rfl : ad185 = ad187 := (by injection e187); have HR187_0 := Aside0.mk hi187_0; have HC187_0 := Aside0.mk hl187_0; clear hi187_0 hl187_0; have HR187_1 := Aside0.mk hi187_1; have HC187_1 := Aside0.mk hl187_1; clear hi187_1 hl187_1; replace p187 := eq_true p187; replace q187 := eq_true q187; have ea_ := Option.some.inj (hx185_0.symm.trans hx187_0); injection ea_ with ea_ en_ ec_; subst ea_; subst ec_; clear en_; have ea_ := Option.some.inj (hx185_1.symm.trans hx187_1); injection ea_ with ea_ en_ ec_; subst ea_; subst ec_; clear en_) | (go_at_call 100; (with_reducible refine (verditerref06_isSet.calls k1 _ _ ((rd_T53 l1 x5_1).f1) a0 t188 _ ?side1 ?side2 A11.out).mono ?_); (case side1 => repeat (first | exact HR187_1.out | (with_reducible refine Kd.C_alloc ?_ _) | (with_reducible refine Kd.C_drewN ?_ _) | (with_reducible refine Kd.C_drew ?_))); (case side2 => exact HC187_1.out); rintro e w' ⟨rfl, ⟨nd, rfl⟩⟩; (try first | exact ⟨rfl, _, World.drewN_drewN _ _ _⟩ | exact ⟨rfl, _, Eq.trans (World.drewN_drewN _ _ _) (congrArg (World.drewN _) (Nat.add_assoc _ _ _))⟩))); try go_wp2_with (first | (go_at_call 100; (with_reducible refine (verditerref06_isSet.calls k1 _ _ ((rd_T53 l1 x5_1).f0) a0 true _ ?side1 ?side2 A9.out).mono ?_); (case side1 => repeat (first | exact HR185_0.out | (with_reducible refine Kd.C_alloc ?_ _) | (with_reducible refine Kd.C_drewN ?_ _) | (with_reducible refine Kd.C_drew ?_))); (case side2 => exact HC185_0.out); rintro e w' ⟨rfl, ⟨nd, rfl⟩⟩; (try first | exact ⟨rfl, _, World.drewN_drewN _ _ _⟩ | exact ⟨rfl, _, Eq.trans (World.drewN_drewN _ _ _) (congrArg (World.drewN _) (Nat.add_assoc _ _ _))⟩); have p187 : 0 ≤ (x5_1 : Int) := of_decide_eq_true (by first | (with_reducible assumption) | assumption); have q187 : x5_1 < (l1.length : Int) := of_decide_eq_true (by first | (with_reducible assumption) | assumption); obtain ⟨ad187, A187_0, c187_0, A187_1, c187_1, e187, hx187_0, hx187_1, hl187_0, hi187_0, hl187_1, hi187_1⟩ := at_T53 HR1.out x5_1 p187 q187; obtain rfl : ad185 = ad187 := (by injection e187); have HR187_0 := Aside0.mk hi187_0; have HC187_0 := Aside0.mk hl187_0; clear hi187_0 hl187_0; have HR187_1 := Aside0.mk hi187_1; have HC187_1 := Aside0.mk hl187_1; clear hi187_1 hl187_1; replace p187 := eq_true p187; replace q187 := eq_true q187; have ea_ := Option.some.inj (hx185_0.symm.trans hx187_0); injection ea_ with ea_ en_ ec_; subst ea_; subst ec_; clear en_; have ea_ := Option.some.inj (hx185_1.symm.trans hx187_1); injection ea_ with ea_ en_ ec_; subst ea_; subst ec_; clear en_) | (go_at_call 100; (with_reducible refine (verditerref06_isSet.calls k1 _ _ ((rd_T53 l1 x5_1).f1) a0 t188 _ ?side1 ?side2 A11.out).mono ?_); (case side1 => repeat (first | exact HR187_1.out | (with_reducible refine Kd.C_alloc ?_ _) | (with_reducible refine Kd.C_drewN ?_ _) | (with_reducible refine Kd.C_drew ?_))); (case side2 => exact HC187_1.out); rintro e w' ⟨rfl, ⟨nd, rfl⟩⟩; (try first | exact ⟨rfl, _, World.drewN_drewN _ _ _⟩ | exact ⟨rfl, _, Eq.trans (World.drewN_drewN _ _ _) (congrArg (World.drewN _) (Nat.add_assoc _ _ _))⟩))))
                  go_meet
                  case rel => exact ⟨_, (!t188), (by first | rfl | (simp; done) | (simp [*]; done)), H', ⟨by have := HK1.out; first | omega | exact Nat.le_refl _⟩, by repeat (first | exact Drawn0.refl _ | apply Drawn0.step)⟩
                · replace c10 := Bool.eq_false_iff.mpr c10
                  subst c10
                  have H1 : (verditerref06_Validate.j1 k1 a0 l1 x5_1 true) = some r := by rw [if_neg (show ¬ (false = true) by decide)] at H; exact H
                  clear H
                  have H := H1
                  clear H1
                  have H' := Aside0.mk H
                  clear H
                  have p185 : 0 ≤ (x5_1 : Int) := of_decide_eq_true (by first | (with_reducible assumption) | assumption)
                  have q185 : x5_1 < (l1.length : Int) := of_decide_eq_true (by first | (with_reducible assumption) | assumption)
                  obtain ⟨ad185, A185_0, c185_0, A185_1, c185_1, e185, hx185_0, hx185_1, hl185_0, hi185_0, hl185_1, hi185_1⟩ := at_T53 HR1.out x5_1 p185 q185
                  cases e185
                  have HR185_0 := Aside0.mk hi185_0
                  have HC185_0 := Aside0.mk hl185_0
                  clear hi185_0 hl185_0
                  have HR185_1 := Aside0.mk hi185_1
                  have HC185_1 := Aside0.mk hl185_1
                  clear hi185_1 hl185_1
                  replace p185 := eq_true p185
                  replace q185 := eq_true q185
                  go_wp2_with (first | (go_at_call 100; (with_reducible refine (verditerref06_isSet.calls k1 _ _ ((rd_T53 l1 x5_1).f0) a0 false _ ?side1 ?side2 A9.out).mono ?_); (case side1 => repeat (first | exact HR185_0.out | (with_reducible refine Kd.C_alloc ?_ _) | (with_reducible refine Kd.C_drewN ?_ _) | (with_reducible refine Kd.C_drew ?_))); (case side2 => exact HC185_0.out); rintro e w' ⟨rfl, ⟨nd, rfl⟩⟩; (try first | exact ⟨rfl, _, World.drewN_drewN _ _ _⟩ | exact ⟨rfl, _, Eq.trans (World.drewN_drewN _ _ _) (congrArg (World.drewN _) (Nat.add_assoc _ _ _))⟩)))
                  repeat (go_quiet (first | (go_at_call 100; (with_reducible refine (verditerref06_isSet.calls k1 _ _ ((rd_T53 l1 x5_1).f0) a0 false _ ?side1 ?side2 A9.out).mono ?_); (case side1 => repeat (first | exact HR185_0.out | (with_reducible refine Kd.C_alloc ?_ _) | (with_reducible refine Kd.C_drewN ?_ _) | (with_reducible refine Kd.C_drew ?_))); (case side2 => exact HC185_0.out); rintro e w' ⟨rfl, ⟨nd, rfl⟩⟩; (try first | exact ⟨rfl, _, World.drewN_drewN _ _ _⟩ | exact ⟨rfl, _, Eq.trans (World.drewN_drewN _ _ _) (congrArg (World.drewN _) (Nat.add_assoc _ _ _))⟩))); try go_wp2_with (first | (go_at_call 100; (with_reducible refine (verditerref06_isSet.calls k1 _ _ ((rd_T53 l1 x5_1).f0) a0 false _ ?side1 ?side2 A9.out).mono ?_); (case side1 => repeat (first | exact HR185_0.out | (with_reducible refine Kd.C_alloc ?_ _) | (with_reducible refine Kd.C_drewN ?_ _) | (with_reducible refine Kd.C_drew ?_))); (case side2 => exact HC185_0.out); rintro e w' ⟨rfl, ⟨nd, rfl⟩⟩; (try first | exact ⟨rfl, _, World.drewN_drewN _ _ _⟩ | exact ⟨rfl, _, Eq.trans (World.drewN_drewN _ _ _) (congrArg (World.drewN _) (Nat.add_assoc _ _ _))⟩))))
                  go_meet
                  case rel => exact ⟨_, (true), (by first | rfl | (simp; done) | (simp [*]; done)), H', ⟨by have := HK1.out; first | omega | exact Nat.le_refl _⟩, by repeat (first | exact Drawn0.refl _ | apply Drawn0.step)⟩
              · rw [if_neg c8] at H
                exact absurd H (by simp)
            case rest =>
              clear HC7
              try clear c1
              try clear p1
              try clear q1
              try clear hx1
              try clear p2
              try clear c4
              try clear c5
              try clear c5b0
              try clear c5b1
              try clear c6
              try clear c6b0
              try clear c8
              try clear c8b0
              try clear c10
              try clear hx185_0
              try clear hx185_1
              try clear hx187_0
              try clear hx187_1
              try clear p185
              try clear p187
              try clear p2
              try clear q185
              try clear q187
              obtain ⟨kq, x36_6, rfl, HA, HJ6, ⟨mc6, rfl⟩⟩ := hcut
              cases kq with
              | zero => exact absurd HA.out (by simp [verditerref06_Validate.j1])
              | succ kj6 =>
                have H := HA.out
                clear HA
                simp only [verditerref06_Validate.j1] at H
                by_cases c12 : x36_6 = true
                · subst c12
                  have H1 : (some 1) = some r := by rw [if_pos rfl] at H; exact H
                  clear H
                  have H := H1
                  clear H1
                  obtain rfl := Option.some.inj H
                  go_wp2
                  repeat (go_quiet (fail); try go_wp2)
                  go_ret
                  exact ⟨by first | rfl | (simp; done) | (simp [*]; done), by repeat (first | exact Drawn0.refl _ | apply Drawn0.step)⟩
                · replace c12 := Bool.eq_false_iff.mpr c12
                  subst c12
                  have H1 : (verditerref06_Validate.l1 kj6 a0 l1 x5_1 0) = some r := by rw [if_neg (show ¬ (false = true) by decide)] at H; exact H
                  clear H
                  have H := H1
                  clear H1
                  have H' := Aside0.mk H
                  clear H
                  go_wp2
                  repeat (go_quiet (fail); try go_wp2)
                  go_loopg [6] kj6 (fun kq v6 w' => ∃ (x6_3 : Int), v6 = .int .i64 x6_3 ∧ Aside0 (verditerref06_Validate.l1 kq a0 l1 x5_1 x6_3 = some r) ∧ Aside0 (kq ≤ kj6) ∧ Drawn0 w w')
                  case atStart => exact ⟨(0), (by first | rfl | (simp; done) | (simp [*]; done)), H', ⟨Nat.le_refl _⟩, by repeat (first | exact Drawn0.refl _ | apply Drawn0.step)⟩
                  case round =>
                    clear H'
                    try clear c1
                    try clear p1
                    try clear q1
                    try clear hx1
                    try clear p2
                    try clear c4
                    try clear c5
                    try clear c5b0
                    try clear c5b1
                    try clear c6
                    try clear c6b0
                    try clear c8
                    try clear c8b0
                    try clear c10
                    try clear c12
                    try clear hx185_0
                    try clear hx185_1
                    try clear hx187_0
                    try clear hx187_1
                    try clear p1
                    try clear p185
                    try clear p187
                    try clear p2
                    try clear q1
                    try clear q185
                    try clear q187
                    obtain ⟨x6_3, rfl, HA, HK3, ⟨m3, rfl⟩⟩ := hrel
                    cases gk with
                    | zero => exact absurd HA.out (by simp [verditerref06_Validate.l1])
                    | succ k3 =>
                      have H := HA.out
                      clear HA
                      simp only [verditerref06_Validate.l1] at H
                      by_cases c13 : 0 ≤ x5_1
                      · rw [if_pos c13] at H
                        have c13b0 : decide (0 ≤ x5_1) = true := decide_eq_true c13
                        clear c13
                        by_cases c14 : x5_1 < (l1.length : Int)
                        · rw [if_pos c14] at H
                          have c14b0 : decide (x5_1 < (l1.length : Int)) = true := decide_eq_true c14
                          clear c14
                          by_cases c15 : x6_3 < (((rd_T53 l1 x5_1).f0).length : Int)
                          · rw [if_pos c15] at H
                            have c15b0 : decide (x6_3 < (((rd_T53 l1 x5_1).f0).length : Int)) = true := decide_eq_true c15
                            clear c15
                            by_cases c16 : 0 ≤ x6_3
                            · rw [if_pos c16] at H
                              have c16b0 : decide (0 ≤ x6_3) = true := decide_eq_true c16
                              clear c16
                              replace H := Option.bind_eq_some_iff.mp H
                              obtain ⟨t193, A170, H⟩ := H
                              replace H : (if t193 = true then (some 6) else (verditerref06_Validate.l1 k3 a0 l1 x5_1 (wrap64 (x6_3 + 1)))) = some r := H
                              have A17 := Aside0.mk A170
                              clear A170
                              by_cases c18 : t193 = true
                              · subst c18
                                have H1 : (some 6) = some r := by rw [if_pos rfl] at H; exact H
                                clear H
                                have H := H1
                                clear H1
                                obtain rfl := Option.some.inj H
                                have p189 : 0 ≤ (x5_1 : Int) := of_decide_eq_true (by first | (with_reducible assumption) | assumption)
                                have q189 : x5_1 < (l1.length : Int) := of_decide_eq_true (by first | (with_reducible assumption) | assumption)
                                obtain ⟨ad189, A189_0, c189_0, A189_1, c189_1, e189, hx189_0, hx189_1, hl189_0, hi189_0, hl189_1, hi189_1⟩ := at_T53 HR1.out x5_1 p189 q189
                                cases e189
                                have HR189_0 := Aside0.mk hi189_0
                                have HC189_0 := Aside0.mk hl189_0
                                clear hi189_0 hl189_0
                                have HR189_1 := Aside0.mk hi189_1
                                have HC189_1 := Aside0.mk hl189_1
                                clear hi189_1 hl189_1
                                replace p189 := eq_true p189
                                replace q189 := eq_true q189
                                have p190 : 0 ≤ (x5_1 : Int) := of_decide_eq_true (by first | (with_reducible assumption) | assumption)
                                have q190 : x5_1 < (l1.length : Int) := of_decide_eq_true (by first | (with_reducible assumption) | assumption)
                                obtain ⟨ad190, A190_0, c190_0, A190_1, c190_1, e190, hx190_0, hx190_1, hl190_0, hi190_0, hl190_1, hi190_1⟩ := at_T53 HR1.out x5_1 p190 q190
                                obtain rfl : ad189 = ad190 := (by injection e190)
                                have HR190_0 := Aside0.mk hi190_0
                                have HC190_0 := Aside0.mk hl190_0
                                clear hi190_0 hl190_0
                                have HR190_1 := Aside0.mk hi190_1
                                have HC190_1 := Aside0.mk hl190_1
                                clear hi190_1 hl190_1
                                replace p190 := eq_true p190
                                replace q190 := eq_true q190
                                have ea_ := Option.some.inj (hx189_0.symm.trans hx190_0)
                                injection ea_ with ea_ en_ ec_
                                subst ea_
                                subst ec_
                                clear en_
                                have ea_ := Option.some.inj (hx189_1.symm.trans hx190_1)
                                injection ea_ with ea_ en_ ec_
                                subst ea_
                                subst ec_
                                clear en_
                                have p191 : 0 ≤ (x5_1 : Int) := of_decide_eq_true (by first | (with_reducible assumption) | assumption)
                                have q191 : x5_1 < (l1.length : Int) := of_decide_eq_true (by first | (with_reducible assumption) | assumption)
                                obtain ⟨ad191, A191_0, c191_0, A191_1, c191_1, e191, hx191_0, hx191_1, hl191_0, hi191_0, hl191_1, hi191_1⟩ := at_T53 HR1.out x5_1 p191 q191
                                obtain rfl : ad189 = ad191 := (by injection e191)
                                have HR191_0 := Aside0.mk hi191_0
                                have HC191_0 := Aside0.mk hl191_0
                                clear hi191_0 hl191_0
                                have HR191_1 := Aside0.mk hi191_1
                                have HC191_1 := Aside0.mk hl191_1
                                clear hi191_1 hl191_1
                                replace p191 := eq_true p191
                                replace q191 := eq_true q191
                                have ea_ := Option.some.inj (hx189_0.symm.trans hx191_0)
                                injection ea_ with ea_ en_ ec_
                                subst ea_
                                subst ec_
                                clear en_
                                have ea_ := Option.some.inj (hx189_1.symm.trans hx191_1)
                                injection ea_ with ea_ en_ ec_
                                subst ea_
                                subst ec_
                                clear en_
                                have p192 : 0 ≤ (x6_3 : Int) := of_decide_eq_true (by first | (with_reducible assumption) | assumption)
                                have q192 : x6_3 < (((rd_T53 l1 x5_1).f0).length : Int) := of_decide_eq_true (by first | (with_reducible assumption) | assumption)
                                obtain ⟨ad192, e192, hx192_0⟩ := Kd.at_int HR191_0.out x6_3 p192 q192
                                cases e192
                                replace p192 := eq_true p192
                                replace q192 := eq_true q192
                                go_wp2_with (first | (go_at_call 101; (with_reducible refine (verditerref06_has.calls k3 _ _ ((rd_T53 l1 x5_1).f1) (rd ((rd_T53 l1 x5_1).f0) x6_3) true _ ?side1 ?side2 A17.out).mono ?_); (case side1 => repeat (first | exact HR190_1.out | (with_reducible refine Kd.C_alloc ?_ _) | (with_reducible refine Kd.C_drewN ?_ _) | (with_reducible refine Kd.C_drew ?_))); (case side2 => exact HC190_1.out); rintro e w' ⟨rfl, ⟨nd, rfl⟩⟩; (try first | exact ⟨rfl, _, World.drewN_drewN _ _ _⟩ | exact ⟨rfl, _, Eq.trans (World.drewN_drewN _ _ _) (congrArg (World.drewN _) (Nat.add_assoc _ _ _))⟩)))
                                repeat (go_quiet (first | (go_at_call 101; (with_reducible refine (verditerref06_has.calls k3 _ _ ((rd_T53 l1 x5_1).f1) (rd ((rd_T53 l1 x5_1).f0) x6_3) true _ ?side1 ?side2 A17.out).mono ?_); (case side1 => repeat (first | exact HR190_1.out | (with_reducible refine Kd.C_alloc ?_ _) | (with_reducible refine Kd.C_drewN ?_ _) | (with_reducible refine Kd.C_drew ?_))); (case side2 => exact HC190_1.out); rintro e w' ⟨rfl, ⟨nd, rfl⟩⟩; (try first | exact ⟨rfl, _, World.drewN_drewN _ _ _⟩ | exact ⟨rfl, _, Eq.trans (World.drewN_drewN _ _ _) (congrArg (World.drewN _) (Nat.add_assoc _ _ _))⟩))); try go_wp2_with (first | (go_at_call 101; (with_reducible refine (verditerref06_has.calls k3 _ _ ((rd_T53 l1 x5_1).f1) (rd ((rd_T53 l1 x5_1).f0) x6_3) true _ ?side1 ?side2 A17.out).mono ?_); (case side1 => repeat (first | exact HR190_1.out | (with_reducible refine Kd.C_alloc ?_ _) | (with_reducible refine Kd.C_drewN ?_ _) | (with_reducible refine Kd.C_drew ?_))); (case side2 => exact HC190_1.out); rintro e w' ⟨rfl, ⟨nd, rfl⟩⟩; (try first | exact ⟨rfl, _, World.drewN_drewN _ _ _⟩ | exact ⟨rfl, _, Eq.trans (World.drewN_drewN _ _ _) (congrArg (World.drewN _) (Nat.add_assoc _ _ _))⟩))))
                                go_ret
                                exact ⟨by first | rfl | (simp; done) | (simp [*]; done), by repeat (first | exact Drawn0.refl _ | apply Drawn0.step)⟩
                              · replace c18 := Bool.eq_false_iff.mpr c18
                                subst c18
                                have H1 : (verditerref06_Validate.l1 k3 a0 l1 x5_1 (wrap64 (x6_3 + 1))) = some r := by rw [if_neg (show ¬ (false = true) by decide)] at H; exact H
                                clear H
                                have H := H1
                                clear H1
                                have H' := Aside0.mk H
                                clear H
                                have p189 : 0 ≤ (x5_1 : Int) := of_decide_eq_true (by first | (with_reducible assumption) | assumption)
                                have q189 : x5_1 < (l1.length : Int) := of_decide_eq_true (by first | (with_reducible assumption) | assumption)
                                obtain ⟨ad189, A189_0, c189_0, A189_1, c189_1, e189, hx189_0, hx189_1, hl189_0, hi189_0, hl189_1, hi189_1⟩ := at_T53 HR1.out x5_1 p189 q189
                                cases e189
                                have HR189_0 := Aside0.mk hi189_0
                                have HC189_0 := Aside0.mk hl189_0
                                clear hi189_0 hl189_0
                                have HR189_1 := Aside0.mk hi189_1
                                have HC189_1 := Aside0.mk hl189_1
                                clear hi189_1 hl189_1
                                replace p189 := eq_true p189
                                replace q189 := eq_true q189
                                have p190 : 0 ≤ (x5_1 : Int) := of_decide_eq_true (by first | (with_reducible assumption) | assumption)
                                have q190 : x5_1 < (l1.length : Int) := of_decide_eq_true (by first | (with_reducible assumption) | assumption)
                                obtain ⟨ad190, A190_0, c190_0, A190_1, c190_1, e190, hx190_0, hx190_1, hl190_0, hi190_0, hl190_1, hi190_1⟩ := at_T53 HR1.out x5_1 p190 q190
                                obtain rfl : ad189 = ad190 := (by injection e190)
                                have HR190_0 := Aside0.mk hi190_0
                                have HC190_0 := Aside0.mk hl190_0
                                clear hi190_0 hl190_0
                                have HR190_1 := Aside0.mk hi190_1
                                have HC190_1 := Aside0.mk hl190_1
                                clear hi190_1 hl190_1
                                replace p190 := eq_true p190
                                replace q190 := eq_true q190
                                have ea_ := Option.some.inj (hx189_0.symm.trans hx190_0)
                                injection ea_ with ea_ en_ ec_
                                subst ea_
                                subst ec_
                                clear en_
                                have ea_ := Option.some.inj (hx189_1.symm.trans hx190_1)
                                injection ea_ with ea_ en_ ec_
                                subst ea_
                                subst ec_
                                clear en_
                                have p191 : 0 ≤ (x5_1 : Int) := of_decide_eq_true (by first | (with_reducible assumption) | assumption)
                                have q191 : x5_1 < (l1.length : Int) := of_decide_eq_true (by first | (with_reducible assumption) | assumption)
                                obtain ⟨ad191, A191_0, c191_0, A191_1, c191_1, e191, hx191_0, hx191_1, hl191_0, hi191_0, hl191_1, hi191_1⟩ := at_T53 HR1.out x5_1 p191 q191
                                obtain rfl : ad189 = ad191 := (by injection e191)
                                have HR191_0 := Aside0.mk hi191_0
                                have HC191_0 := Aside0.mk hl191_0
                                clear hi191_0 hl191_0
                                have HR191_1 := Aside0.mk hi191_1
                                have HC191_1 := Aside0.mk hl191_1
                                clear hi191_1 hl191_1
                                replace p191 := eq_true p191
                                replace q191 := eq_true q191
                                have ea_ := Option.some.inj (hx189_0.symm.trans hx191_0)
                                injection ea_ with ea_ en_ ec_
                                subst ea_
                                subst ec_
                                clear en_
                                have ea_ := Option.some.inj (hx189_1.symm.trans hx191_1)
                                injection ea_ with ea_ en_ ec_
                                subst ea_
                                subst ec_
                                clear en_
                                have p192 : 0 ≤ (x6_3 : Int) := of_decide_eq_true (by first | (with_reducible assumption) | assumption)
                                have q192 : x6_3 < (((rd_T53 l1 x5_1).f0).length : Int) := of_decide_eq_true (by first | (with_reducible assumption) | assumption)
                                obtain ⟨ad192, e192, hx192_0⟩ := Kd.at_int HR191_0.out x6_3 p192 q192
                                cases e192
                                replace p192 := eq_true p192
                                replace q192 := eq_true q192
                                go_wp2_with (first | (go_at_call 101; (with_reducible refine (verditerref06_has.calls k3 _ _ ((rd_T53 l1 x5_1).f1) (rd ((rd_T53 l1 x5_1).f0) x6_3) false _ ?side1 ?side2 A17.out).mono ?_); (case side1 => repeat (first | exact HR190_1.out | (with_reducible refine Kd.C_alloc ?_ _) | (with_reducible refine Kd.C_drewN ?_ _) | (with_reducible refine Kd.C_drew ?_))); (case side2 => exact HC190_1.out); rintro e w' ⟨rfl, ⟨nd, rfl⟩⟩; (try first | exact ⟨rfl, _, World.drewN_drewN _ _ _⟩ | exact ⟨rfl, _, Eq.trans (World.drewN_drewN _ _ _) (congrArg (World.drewN _) (Nat.add_assoc _ _ _))⟩)))
                                repeat (go_quiet (first | (go_at_call 101; (with_reducible refine (verditerref06_has.calls k3 _ _ ((rd_T53 l1 x5_1).f1) (rd ((rd_T53 l1 x5_1).f0) x6_3) false _ ?side1 ?side2 A17.out).mono ?_); (case side1 => repeat (first | exact HR190_1.out | (with_reducible refine Kd.C_alloc ?_ _) | (with_reducible refine Kd.C_drewN ?_ _) | (with_reducible refine Kd.C_drew ?_))); (case side2 => exact HC190_1.out); rintro e w' ⟨rfl, ⟨nd, rfl⟩⟩; (try first | exact ⟨rfl, _, World.drewN_drewN _ _ _⟩ | exact ⟨rfl, _, Eq.trans (World.drewN_drewN _ _ _) (congrArg (World.drewN _) (Nat.add_assoc _ _ _))⟩))); try go_wp2_with (first | (go_at_call 101; (with_reducible refine (verditerref06_has.calls k3 _ _ ((rd_T53 l1 x5_1).f1) (rd ((rd_T53 l1 x5_1).f0) x6_3) false _ ?side1 ?side2 A17.out).mono ?_); (case side1 => repeat (first | exact HR190_1.out | (with_reducible refine Kd.C_alloc ?_ _) | (with_reducible refine Kd.C_drewN ?_ _) | (with_reducible refine Kd.C_drew ?_))); (case side2 => exact HC190_1.out); rintro e w' ⟨rfl, ⟨nd, rfl⟩⟩; (try first | exact ⟨rfl, _, World.drewN_drewN _ _ _⟩ | exact ⟨rfl, _, Eq.trans (World.drewN_drewN _ _ _) (congrArg (World.drewN _) (Nat.add_assoc _ _ _))⟩))))
                                go_roundg k3
                                case measure => have := HK1.out; have := HJ6.out; have := HK3.out; omega
                                case rel => exact ⟨(wrap64 (x6_3 + 1)), (by first | rfl | (simp; done) | (simp [*]; done)), H', ⟨by have := HK1.out; have := HJ6.out; have := HK3.out; omega⟩, by repeat (first | exact Drawn0.refl _ | apply Drawn0.step)⟩
                            · rw [if_neg c16] at H
                              exact absurd H (by simp)
                          · rw [if_neg c15] at H
                            have c15b0 : decide (x6_3 < (((rd_T53 l1 x5_1).f0).length : Int)) = false := decide_eq_false c15
                            clear c15
                            by_cases c19 : (((rd_T53 l1 x5_1).f0).length : Int) = (((rd_T53 l1 x5_1).f1).length : Int)
                            · rw [if_pos c19] at H
                              have c19b0 : ((((rd_T53 l1 x5_1).f0).length : Int) == (((rd_T53 l1 x5_1).f1).length : Int)) = true := beq_iff_eq.mpr c19
                              have c19b1 : ((((rd_T53 l1 x5_1).f0).length : Int) != (((rd_T53 l1 x5_1).f1).length : Int)) = false := bne_eq_false_iff_eq.mpr c19
                              have c19b2 : (((rd_T53 l1 x5_1).f0).length == ((rd_T53 l1 x5_1).f1).length) = true := by first | simpa using c19 | (simp at c19 ⊢; omega)
                              clear c19
                              have H' := Aside0.mk H
                              clear H
                              have p189 : 0 ≤ (x5_1 : Int) := of_decide_eq_true (by first | (with_reducible assumption) | assumption)
                              have q189 : x5_1 < (l1.length : Int) := of_decide_eq_true (by first | (with_reducible assumption) | assumption)
                              obtain ⟨ad189, A189_0, c189_0, A189_1, c189_1, e189, hx189_0, hx189_1, hl189_0, hi189_0, hl189_1, hi189_1⟩ := at_T53 HR1.out x5_1 p189 q189
                              cases e189
                              have HR189_0 := Aside0.mk hi189_0
                              have HC189_0 := Aside0.mk hl189_0
                              clear hi189_0 hl189_0
                              have HR189_1 := Aside0.mk hi189_1
                              have HC189_1 := Aside0.mk hl189_1
                              clear hi189_1 hl189_1
                              replace p189 := eq_true p189
                              replace q189 := eq_true q189
                              have p194 : 0 ≤ (x5_1 : Int) := of_decide_eq_true (by first | (with_reducible assumption) | assumption)
                              have q194 : x5_1 < (l1.length : Int) := of_decide_eq_true (by first | (with_reducible assumption) | assumption)
                              obtain ⟨ad194, A194_0, c194_0, A194_1, c194_1, e194, hx194_0, hx194_1, hl194_0, hi194_0, hl194_1, hi194_1⟩ := at_T53 HR1.out x5_1 p194 q194
                              obtain rfl : ad189 = ad194 := (by injection e194)
                              have HR194_0 := Aside0.mk hi194_0
                              have HC194_0 := Aside0.mk hl194_0
                              clear hi194_0 hl194_0
                              have HR194_1 := Aside0.mk hi194_1
                              have HC194_1 := Aside0.mk hl194_1
                              clear hi194_1 hl194_1
                              replace p194 := eq_true p194
                              replace q194 := eq_true q194
                              have ea_ := Option.some.inj (hx189_0.symm.trans hx194_0)
                              injection ea_ with ea_ en_ ec_
                              subst ea_
                              subst ec_
                              clear en_
                              have ea_ := Option.some.inj (hx189_1.symm.trans hx194_1)
                              injection ea_ with ea_ en_ ec_
                              subst ea_
                              subst ec_
                              clear en_
                              have p195 : 0 ≤ (x5_1 : Int) := of_decide_eq_true (by first | (with_reducible assumption) | assumption)
                              have q195 : x5_1 < (l1.length : Int) := of_decide_eq_true (by first | (with_reducible assumption) | assumption)
                              obtain ⟨ad195, A195_0, c195_0, A195_1, c195_1, e195, hx195_0, hx195_1, hl195_0, hi195_0, hl195_1, hi195_1⟩ := at_T53 HR1.out x5_1 p195 q195
                              obtain rfl : ad189 = ad195 := (by injection e195)
                              have HR195_0 := Aside0.mk hi195_0
                              have HC195_0 := Aside0.mk hl195_0
                              clear hi195_0 hl195_0
                              have HR195_1 := Aside0.mk hi195_1
                              have HC195_1 := Aside0.mk hl195_1
                              clear hi195_1 hl195_1
                              replace p195 := eq_true p195
                              replace q195 := eq_true q195
                              have ea_ := Option.some.inj (hx189_0.symm.trans hx195_0)
                              injection ea_ with ea_ en_ ec_
                              subst ea_
                              subst ec_
                              clear en_
                              have ea_ := Option.some.inj (hx189_1.symm.trans hx195_1)
                              injection ea_ with ea_ en_ ec_
                              subst ea_
                              subst ec_
                              clear en_
                              go_wp2
                              repeat (go_quiet (fail); try go_wp2)
                              go_roundg k3
                              case measure => have := HK1.out; have := HJ6.out; have := HK3.out; omega
                              case rel => exact ⟨(wrap64 (x5_1 + 1)), (by first | rfl | (simp; done) | (simp [*]; done)), H', ⟨by have := HK1.out; have := HJ6.out; have := HK3.out; omega⟩, by repeat (first | exact Drawn0.refl _ | apply Drawn0.step)⟩
                            · rw [if_neg c19] at H
                              have c19b0 : ((((rd_T53 l1 x5_1).f0).length : Int) == (((rd_T53 l1 x5_1).f1).length : Int)) = false := beq_eq_false_iff_ne.mpr c19
                              have c19b1 : ((((rd_T53 l1 x5_1).f0).length : Int) != (((rd_T53 l1 x5_1).f1).length : Int)) = true := bne_iff_ne.mpr c19
                              have c19b2 : (((rd_T53 l1 x5_1).f0).length == ((rd_T53 l1 x5_1).f1).length) = false := by first | simpa using c19 | (simp at c19 ⊢; omega)
                              obtain rfl := Option.some.inj H
                              have p189 : 0 ≤ (x5_1 : Int) := of_decide_eq_true (by first | (with_reducible assumption) | assumption)
                              have q189 : x5_1 < (l1.length : Int) := of_decide_eq_true (by first | (with_reducible assumption) | assumption)
                              obtain ⟨ad189, A189_0, c189_0, A189_1, c189_1, e189, hx189_0, hx189_1, hl189_0, hi189_0, hl189_1, hi189_1⟩ := at_T53 HR1.out x5_1 p189 q189
                              cases e189
                              have HR189_0 := Aside0.mk hi189_0
                              have HC189_0 := Aside0.mk hl189_0
                              clear hi189_0 hl189_0
                              have HR189_1 := Aside0.mk hi189_1
                              have HC189_1 := Aside0.mk hl189_1
                              clear hi189_1 hl189_1
                              replace p189 := eq_true p189
                              replace q189 := eq_true q189
                              have p194 : 0 ≤ (x5_1 : Int) := of_decide_eq_true (by first | (with_reducible assumption) | assumption)
                              have q194 : x5_1 < (l1.length : Int) := of_decide_eq_true (by first | (with_reducible assumption) | assumption)
                              obtain ⟨ad194, A194_0, c194_0, A194_1, c194_1, e194, hx194_0, hx194_1, hl194_0, hi194_0, hl194_1, hi194_1⟩ := at_T53 HR1.out x5_1 p194 q194
                              obtain rfl : ad189 = ad194 := (by injection e194)
                              have HR194_0 := Aside0.mk hi194_0
                              have HC194_0 := Aside0.mk hl194_0
                              clear hi194_0 hl194_0
                              have HR194_1 := Aside0.mk hi194_1
                              have HC194_1 := Aside0.mk hl194_1
                              clear hi194_1 hl194_1
                              replace p194 := eq_true p194
                              replace q194 := eq_true q194
                              have ea_ := Option.some.inj (hx189_0.symm.trans hx194_0)
                              injection ea_ with ea_ en_ ec_
                              subst ea_
                              subst ec_
                              clear en_
                              have ea_ := Option.some.inj (hx189_1.symm.trans hx194_1)
                              injection ea_ with ea_ en_ ec_
                              subst ea_
                              subst ec_
                              clear en_
                              have p195 : 0 ≤ (x5_1 : Int) := of_decide_eq_true (by first | (with_reducible assumption) | assumption)
                              have q195 : x5_1 < (l1.length : Int) := of_decide_eq_true (by first | (with_reducible assumption) | assumption)
                              obtain ⟨ad195, A195_0, c195_0, A195_1, c195_1, e195, hx195_0, hx195_1, hl195_0, hi195_0, hl195_1, hi195_1⟩ := at_T53 HR1.out x5_1 p195 q195
                              obtain rfl : ad189 = ad195 := (by injection e195)
                              have HR195_0 := Aside0.mk hi195_0
                              have HC195_0 := Aside0.mk hl195_0
                              clear hi195_0 hl195_0
                              have HR195_1 := Aside0.mk hi195_1
                              have HC195_1 := Aside0.mk hl195_1
                              clear hi195_1 hl195_1
                              replace p195 := eq_true p195
                              replace q195 := eq_true q195
                              have ea_ := Option.some.inj (hx189_0.symm.trans hx195_0)
                              injection ea_ with ea_ en_ ec_
                              subst ea_
                              subst ec_
                              clear en_
                              have ea_ := Option.some.inj (hx189_1.symm.trans hx195_1)
                              injection ea_ with ea_ en_ ec_
                              subst ea_
                              subst ec_
                              clear en_
                              go_wp2
                              repeat (go_quiet (fail); try go_wp2)
                              go_ret
                              exact ⟨by first | rfl | (simp; done) | (simp [*]; done), by repeat (first | exact Drawn0.refl _ | apply Drawn0.step)⟩
                        · rw [if_neg c14] at H
                          exact absurd H (by simp)
                      · rw [if_neg c13] at H
                        exact absurd H (by simp)
          · rw [if_neg c6] at H
            have c6b0 : decide (x5_1 < (l1.length : Int)) = false := decide_eq_false c6
            clear c6
            obtain rfl := Option.some.inj H
            go_wp2
            repeat (go_quiet (fail); try go_wp2)
            go_ret
            exact ⟨by first | rfl | (simp; done) | (simp [*]; done), by repeat (first | exact Drawn0.refl _ | apply Drawn0.step)⟩
  · replace c4 := Bool.eq_false_iff.mpr c4
    subst c4
    have H1 : (some 1) = some r := by rw [if_neg (show ¬ (false = true) by decide)] at H; exact H
    clear H
    have H := H1
    clear H1
    obtain rfl := Option.some.inj H
    go_enter Try.func59, Try.ntmps59
    go_wp2_with (first | (go_at_call 82; (with_reducible refine (verditerref06_within.calls a0 1 13 false _ A3.out).mono ?_); rintro e w' ⟨rfl, ⟨nd, rfl⟩⟩; (try first | exact ⟨rfl, _, World.drewN_drewN _ _ _⟩ | exact ⟨rfl, _, Eq.trans (World.drewN_drewN _ _ _) (congrArg (World.drewN _) (Nat.add_assoc _ _ _))⟩)))
    repeat (go_quiet (first | (go_at_call 82; (with_reducible refine (verditerref06_within.calls a0 1 13 false _ A3.out).mono ?_); rintro e w' ⟨rfl, ⟨nd, rfl⟩⟩; (try first | exact ⟨rfl, _, World.drewN_drewN _ _ _⟩ | exact ⟨rfl, _, Eq.trans (World.drewN_drewN _ _ _) (congrArg (World.drewN _) (Nat.add_assoc _ _ _))⟩))); try go_wp2_with (first | (go_at_call 82; (with_reducible refine (verditerref06_within.calls a0 1 13 false _ A3.out).mono ?_); rintro e w' ⟨rfl, ⟨nd, rfl⟩⟩; (try first | exact ⟨rfl, _, World.drewN_drewN _ _ _⟩ | exact ⟨rfl, _, Eq.trans (World.drewN_drewN _ _ _) (congrArg (World.drewN _) (Nat.add_assoc _ _ _))⟩))))
    go_ret
    exact ⟨by first | rfl | (simp; done) | (simp [*]; done), by repeat (first | exact Drawn0.refl _ | apply Drawn0.step)⟩

end Go.Proofs.Ytdbeochifofdoaa.X
end

section
-- Written by a program of this session (wip/hook.py, which runs the kit's print.py with contracts proved by hand). Not trusted: Lean checks it.
namespace Go.Proofs.Ytdbeochifofdoaa.X
open Go.RowKit Go.Proofs.YtdbeochifofdoaaW.PrintWords Go.Proofs.YtdbeochifofdoaaW.PrintLast Go.Proofs.YtdbeochifofdoaaW.PrintMore
attribute [local go_sem] max2_int min2_int max_two min_two max_three min_three max_four min_four   -- for this text's walks alone
set_option linter.unusedVariables false
set_option linter.unusedSimpArgs false

/-! ### verditerref06_mark: function 80 -/
def verditerref06_mark.l0 : Nat → List (S53) → Int → List Int → Int → Option (List Int)
  | 0, _, _, _, _ => none
  | k + 1, x0, x1, x5, x6 => if x6 < (x0.length : Int) then (if 0 ≤ x6 then ((verditerref06_has.f k ((rd_T53 x0 x6).f0) x1).bind fun t201 => (if t201 = true then ((verditerref06_has.f k ((rd_T53 x0 x6).f1) x1).bind fun t203 => (if t203 = true then (if x5.length < 17592186044416 then (verditerref06_mark.l0 k x0 x1 (x5 ++ [(-1)]) (wrap64 (x6 + 1))) else (none)) else (if x5.length < 17592186044416 then (verditerref06_mark.l0 k x0 x1 (x5 ++ [1]) (wrap64 (x6 + 1))) else (none)))) else ((verditerref06_has.f k ((rd_T53 x0 x6).f1) x1).bind fun t211 => (if t211 = true then (if x5.length < 17592186044416 then (verditerref06_mark.l0 k x0 x1 (x5 ++ [(-1)]) (wrap64 (x6 + 1))) else (none)) else (if x5.length < 17592186044416 then (verditerref06_mark.l0 k x0 x1 (x5 ++ [0]) (wrap64 (x6 + 1))) else (none)))))) else (none)) else (some x5)
def verditerref06_mark.f (k : Nat) (l0 : List (S53)) (a1 : Int) : Option (List Int) := verditerref06_mark.l0 k l0 a1 ([] : List Int) 0
theorem verditerref06_mark.mono_l : ∀ k, (∀ y0 y1 y2 y3, LeO (verditerref06_mark.l0 k y0 y1 y2 y3) (verditerref06_mark.l0 (k + 1) y0 y1 y2 y3))
  | 0 => fun _ _ _ _ r h => by simp [verditerref06_mark.l0] at h
  | k + 1 => by
    have ih0 := verditerref06_mark.mono_l k
    · intro y0 y1 y2 y3
      unfold verditerref06_mark.l0
      repeat' first
      | (with_reducible exact ih0 _ _ _ _)
      | (with_reducible exact verditerref06_has.mono _ _ _)
      | (with_reducible exact LeO.refl _)
      | (with_reducible exact LeO.none _)
      | (with_reducible refine LeO.ite ?_ ?_)
      | (with_reducible refine LeO.bind ?_ (fun _ => ?_))
      | exact ih0 _ _ _ _
      | exact verditerref06_has.mono _ _ _
      | exact LeO.none _
      | refine LeO.ite ?_ ?_
      | refine LeO.bind ?_ (fun _ => ?_)
theorem verditerref06_mark.mono : ∀ a0 a1 k, LeO (verditerref06_mark.f k a0 a1) (verditerref06_mark.f (k + 1) a0 a1) := by
  intro a0 a1 k
  have ih0 := verditerref06_mark.mono_l k
  unfold verditerref06_mark.f
  repeat' first
      | (with_reducible exact ih0 _ _ _ _)
      | (with_reducible exact verditerref06_has.mono _ _ _)
      | (with_reducible exact LeO.refl _)
      | (with_reducible exact LeO.none _)
      | (with_reducible refine LeO.ite ?_ ?_)
      | (with_reducible refine LeO.bind ?_ (fun _ => ?_))
      | exact ih0 _ _ _ _
      | exact verditerref06_has.mono _ _ _
      | exact LeO.none _
      | refine LeO.ite ?_ ?_
      | refine LeO.bind ?_ (fun _ => ?_)
set_option maxHeartbeats 8000000 in
set_option maxRecDepth 100000 in
theorem verditerref06_mark.calls (k : Nat) (A0 : Option Addr) (c0 : Nat) (l0 : List (S53)) (a1 : Int) (r : List Int) (w : World) (hr0 : Kd.C k53 w A0 l0.length l0) (hc0 : l0.length ≤ c0) (h : verditerref06_mark.f k l0 a1 = some r) :
    Calls Try.prog 80 #[.slice A0 l0.length c0, .int .i64 a1] w fun e w' => ∃ v0_ : Value, e = .returned (v0_) ∧ Kd.R (Kd.int .i64) 3 w' w.heap.size (fun _ => True) v0_ r ∧ Below w.heap.size w w' := by
  have HR0 := Aside0.mk hr0
  have HC0 := Aside0.mk hc0
  clear hr0 hc0
  have HB := Aside0.mk (Below.refl w.heap.size w)
  have H : (verditerref06_mark.l0 k l0 a1 ([] : List Int) 0) = some r := h
  clear h
  have H' := Aside0.mk H
  clear H
  go_enter Try.func80, Try.ntmps80
  go_wp2
  go_loopg [5, 6] k (fun kq v5 v6 w' => ∃ (x5_1 : List Int) (x6_1 : Int), v6 = .int .i64 x6_1 ∧ Aside0 (verditerref06_mark.l0 kq l0 a1 x5_1 x6_1 = some r) ∧ Aside0 (kq ≤ k) ∧ Aside0 (Kd.R (Kd.int .i64) 3 w' w.heap.size (fun _ => True) v5 x5_1) ∧ Aside0 (Below w.heap.size w w'))
  case atStart => exact ⟨(([] : List Int)), (0), (by first | rfl | (simp; done) | (simp [*]; done)), H', ⟨Nat.le_refl _⟩, ⟨by first | exact Kd.R_nil _ _ _ _ _ | exact Kd.N_nil _ _ _ _ _ | exact Kd.V_nil _ _ _ _ _ | exact Kd.Q_nil _ _ _ _ _ | exact Kd.S_nil _ _ _ _ _⟩, ⟨by repeat (first | (with_reducible first | exact HB.out | apply below_alloc | apply pw_below_drewN | apply below_drew1) | exact HB.out)⟩⟩
  case round =>
    clear H'
    try clear p2
    obtain ⟨x5_1, x6_1, rfl, HA, HK1, HO_5, HB⟩ := hrel
    cases gk with
    | zero => exact absurd HA.out (by simp [verditerref06_mark.l0])
    | succ k1 =>
      have H := HA.out
      clear HA
      simp only [verditerref06_mark.l0] at H
      by_cases c3 : x6_1 < (l0.length : Int)
      · rw [if_pos c3] at H
        have c3b0 : decide (x6_1 < (l0.length : Int)) = true := decide_eq_true c3
        clear c3
        by_cases c4 : 0 ≤ x6_1
        · rw [if_pos c4] at H
          have c4b0 : decide (0 ≤ x6_1) = true := decide_eq_true c4
          clear c4
          replace H := Option.bind_eq_some_iff.mp H
          obtain ⟨t201, A50, H⟩ := H
          replace H : (if t201 = true then ((verditerref06_has.f k1 ((rd_T53 l0 x6_1).f1) a1).bind fun t203 => (if t203 = true then (if x5_1.length < 17592186044416 then (verditerref06_mark.l0 k1 l0 a1 (x5_1 ++ [(-1)]) (wrap64 (x6_1 + 1))) else (none)) else (if x5_1.length < 17592186044416 then (verditerref06_mark.l0 k1 l0 a1 (x5_1 ++ [1]) (wrap64 (x6_1 + 1))) else (none)))) else ((verditerref06_has.f k1 ((rd_T53 l0 x6_1).f1) a1).bind fun t211 => (if t211 = true then (if x5_1.length < 17592186044416 then (verditerref06_mark.l0 k1 l0 a1 (x5_1 ++ [(-1)]) (wrap64 (x6_1 + 1))) else (none)) else (if x5_1.length < 17592186044416 then (verditerref06_mark.l0 k1 l0 a1 (x5_1 ++ [0]) (wrap64 (x6_1 + 1))) else (none))))) = some r := H
          have A5 := Aside0.mk A50
          clear A50
          by_cases c6 : t201 = true
          · subst c6
            have H1 : ((verditerref06_has.f k1 ((rd_T53 l0 x6_1).f1) a1).bind fun t203 => (if t203 = true then (if x5_1.length < 17592186044416 then (verditerref06_mark.l0 k1 l0 a1 (x5_1 ++ [(-1)]) (wrap64 (x6_1 + 1))) else (none)) else (if x5_1.length < 17592186044416 then (verditerref06_mark.l0 k1 l0 a1 (x5_1 ++ [1]) (wrap64 (x6_1 + 1))) else (none)))) = some r := by rw [if_pos rfl] at H; exact H
            clear H
            have H := H1
            clear H1
            replace H := Option.bind_eq_some_iff.mp H
            obtain ⟨t203, A70, H⟩ := H
            replace H : (if t203 = true then (if x5_1.length < 17592186044416 then (verditerref06_mark.l0 k1 l0 a1 (x5_1 ++ [(-1)]) (wrap64 (x6_1 + 1))) else (none)) else (if x5_1.length < 17592186044416 then (verditerref06_mark.l0 k1 l0 a1 (x5_1 ++ [1]) (wrap64 (x6_1 + 1))) else (none))) = some r := H
            have A7 := Aside0.mk A70
            clear A70
            by_cases c8 : t203 = true
            · subst c8
              have H1 : (if x5_1.length < 17592186044416 then (verditerref06_mark.l0 k1 l0 a1 (x5_1 ++ [(-1)]) (wrap64 (x6_1 + 1))) else (none)) = some r := by rw [if_pos rfl] at H; exact H
              clear H
              have H := H1
              clear H1
              by_cases c9 : x5_1.length < 17592186044416
              · rw [if_pos c9] at H
                have LMc9 := Aside0.mk c9
                clear c9
                obtain ⟨y204, hy204⟩ : ∃ y_ : List Int, y_ = (x5_1 ++ [(-1)]) := ⟨_, rfl⟩
                replace H : (verditerref06_mark.l0 k1 l0 a1 y204 (wrap64 (x6_1 + 1))) = some r := by first | (rw [hy204]; with_reducible exact H) | (have H2_ := (Option.bind_some _ _).symm.trans H; rw [hy204]; with_reducible exact H2_) | (have H2_ := (Option.bind_some _ _).symm.trans H; with_reducible exact H2_) | with_reducible exact H | (rw [hy204]; exact H) | exact H
                have Ny204 := Aside0.mk hy204
                clear hy204
                have H' := Aside0.mk H
                clear H
                have p200 : 0 ≤ (x6_1 : Int) := of_decide_eq_true (by first | (with_reducible assumption) | assumption)
                have q200 : x6_1 < (l0.length : Int) := of_decide_eq_true (by first | (with_reducible assumption) | assumption)
                obtain ⟨ad200, A200_0, c200_0, A200_1, c200_1, e200, hx200_0, hx200_1, hl200_0, hi200_0, hl200_1, hi200_1⟩ := at_T53 HR0.out x6_1 p200 q200
                cases e200
                replace hx200_0 := (HB.out.cell (World.block_lt_of_cell? w _ hx200_0)).trans hx200_0
                replace hx200_1 := (HB.out.cell (World.block_lt_of_cell? w _ hx200_1)).trans hx200_1
                have HR200_0 := Aside0.mk hi200_0
                have HC200_0 := Aside0.mk hl200_0
                clear hi200_0 hl200_0
                have HR200_1 := Aside0.mk hi200_1
                have HC200_1 := Aside0.mk hl200_1
                clear hi200_1 hl200_1
                replace p200 := eq_true p200
                replace q200 := eq_true q200
                go_wp2_with (first | ((with_reducible refine gate_callee (f := 101) rfl ?_); refine goesL_ (some 20) rfl rfl Try.func101 (by kernel_rfl) rfl #[.slice A200_0 ((rd_T53 l0 x6_1).f0).length c200_0, .int .i64 a1] rfl (by (try simp only [List.map_toArray, List.map_cons, List.map_nil]); first | done | rfl | (simp only [List.length_drop, List.length_take]; rfl)) ?_; (with_reducible refine (verditerref06_has.calls k1 _ _ ((rd_T53 l0 x6_1).f0) a1 true _ ?side1 ?side2 A5.out).mono ?_); (case side1 => repeat (first | exact (Kd.C_below HR200_0.out HB.out) | (with_reducible refine Kd.C_alloc ?_ _) | (with_reducible refine Kd.C_drewN ?_ _) | (with_reducible refine Kd.C_drew ?_))); (case side2 => exact HC200_0.out); rintro e w' ⟨rfl, ⟨nd, rfl⟩⟩; refine ⟨_, rfl, ?_⟩; have p202 : 0 ≤ (x6_1 : Int) := of_decide_eq_true (by first | (with_reducible assumption) | assumption); have q202 : x6_1 < (l0.length : Int) := of_decide_eq_true (by first | (with_reducible assumption) | assumption); obtain ⟨ad202, A202_0, c202_0, A202_1, c202_1, e202, hx202_0, hx202_1, hl202_0, hi202_0, hl202_1, hi202_1⟩ := at_T53 HR0.out x6_1 p202 q202; obtain rfl : ad200 = ad202 := (by injection e202); replace hx202_0 := (HB.out.cell (World.block_lt_of_cell? w _ hx202_0)).trans hx202_0; replace hx202_1 := (HB.out.cell (World.block_lt_of_cell? w _ hx202_1)).trans hx202_1; have HR202_0 := Aside0.mk hi202_0; have HC202_0 := Aside0.mk hl202_0; clear hi202_0 hl202_0; have HR202_1 := Aside0.mk hi202_1; have HC202_1 := Aside0.mk hl202_1; clear hi202_1 hl202_1; replace p202 := eq_true p202; replace q202 := eq_true q202; have ea_ := Option.some.inj (hx200_0.symm.trans hx202_0); injection ea_ with ea_ en_ ec_; subst ea_; subst ec_; clear en_; have ea_ := Option.some.inj (hx200_1.symm.trans hx202_1); injection ea_ with ea_ en_ ec_; subst ea_; subst ec_; clear en_) | ((with_reducible refine gate_callee (f := 101) rfl ?_); refine goesL_ (some 27) rfl rfl Try.func101 (by kernel_rfl) rfl #[.slice A200_1 ((rd_T53 l0 x6_1).f1).length c200_1, .int .i64 a1] rfl (by (try simp only [List.map_toArray, List.map_cons, List.map_nil]); first | done | rfl | (simp only [List.length_drop, List.length_take]; rfl)) ?_; (with_reducible refine (verditerref06_has.calls k1 _ _ ((rd_T53 l0 x6_1).f1) a1 true _ ?side1 ?side2 A7.out).mono ?_); (case side1 => repeat (first | exact (Kd.C_below HR202_1.out (by repeat (first | (with_reducible first | exact HB.out | apply below_alloc | apply pw_below_drewN | apply below_drew1) | exact HB.out))) | (with_reducible refine Kd.C_alloc ?_ _) | (with_reducible refine Kd.C_drewN ?_ _) | (with_reducible refine Kd.C_drew ?_))); (case side2 => exact HC202_1.out); rintro e w' ⟨rfl, ⟨nd, rfl⟩⟩; refine ⟨_, rfl, ?_⟩) | ((with_reducible refine gate_builtin (b := .append) (xs := #[.tmp 28, .tmp 30]) rfl ?_); at_builtin; refine Kd.R_append (Kd.int .i64) (w0 := w) w.heap.size rfl (.tmp 28) (.tmp 30) 43 3 (.int .i64 0) 8 rfl Try.underlying43 info3 rfl (by decide) (by omega) u5 x5_1 (-1) [.int .i64 (-1)] (fun _ => True) (fun _ => False) rfl rfl ?aP (fun _ hk => hk.elim) ?aF ?aO ?aB ?aS ?aL ?_; (case aP => exact rfl); (case aB => exact (by repeat (first | (with_reducible first | exact HB.out | apply below_alloc | apply pw_below_drewN | apply below_drew1) | exact HB.out))); (case aF => exact (fun _ _ => trivial)); (case aO => exact (by (with_reducible repeat (first | apply Kd.R_alloc | apply Kd.R_drewN | apply Kd.R_drew)); exact HO_5.out)); (case aS => exact (below_size (by repeat (first | (with_reducible first | exact HB.out | apply below_alloc | apply pw_below_drewN | apply below_drew1) | exact HB.out)))); (case aL => have := LMc9.out; omega); intro v205 w10 ho hb hg hat; rw [← Ny204.out] at ho; have n0_ := Aside0.mk (hb); have n1_ := Aside0.mk (ho); clear HB; clear HO_5; have HB := n0_; have HO206 := n1_; clear n0_ n1_; clear ho hb hg hat))
                go_roundg k1
                case measure => have := HK1.out; omega
                case rel => exact ⟨(y204), (wrap64 (x6_1 + 1)), (by first | rfl | (simp; done) | (simp [*]; done)), H', ⟨by have := HK1.out; omega⟩, ⟨by (with_reducible repeat (first | apply Kd.R_alloc | apply Kd.R_drewN | apply Kd.R_drew)); exact HO206.out⟩, ⟨by repeat (first | (with_reducible first | exact HB.out | apply below_alloc | apply pw_below_drewN | apply below_drew1) | exact HB.out)⟩⟩
              · rw [if_neg c9] at H
                exact absurd H (by simp)
            · replace c8 := Bool.eq_false_iff.mpr c8
              subst c8
              have H1 : (if x5_1.length < 17592186044416 then (verditerref06_mark.l0 k1 l0 a1 (x5_1 ++ [1]) (wrap64 (x6_1 + 1))) else (none)) = some r := by rw [if_neg (show ¬ (false = true) by decide)] at H; exact H
              clear H
              have H := H1
              clear H1
              by_cases c11 : x5_1.length < 17592186044416
              · rw [if_pos c11] at H
                have LMc11 := Aside0.mk c11
                clear c11
                obtain ⟨y207, hy207⟩ : ∃ y_ : List Int, y_ = (x5_1 ++ [1]) := ⟨_, rfl⟩
                replace H : (verditerref06_mark.l0 k1 l0 a1 y207 (wrap64 (x6_1 + 1))) = some r := by first | (rw [hy207]; with_reducible exact H) | (have H2_ := (Option.bind_some _ _).symm.trans H; rw [hy207]; with_reducible exact H2_) | (have H2_ := (Option.bind_some _ _).symm.trans H; with_reducible exact H2_) | with_reducible exact H | (rw [hy207]; exact H) | exact H
                have Ny207 := Aside0.mk hy207
                clear hy207
                have H' := Aside0.mk H
                clear H
                have p200 : 0 ≤ (x6_1 : Int) := of_decide_eq_true (by first | (with_reducible assumption) | assumption)
                have q200 : x6_1 < (l0.length : Int) := of_decide_eq_true (by first | (with_reducible assumption) | assumption)
                obtain ⟨ad200, A200_0, c200_0, A200_1, c200_1, e200, hx200_0, hx200_1, hl200_0, hi200_0, hl200_1, hi200_1⟩ := at_T53 HR0.out x6_1 p200 q200
                cases e200
                replace hx200_0 := (HB.out.cell (World.block_lt_of_cell? w _ hx200_0)).trans hx200_0
                replace hx200_1 := (HB.out.cell (World.block_lt_of_cell? w _ hx200_1)).trans hx200_1
                have HR200_0 := Aside0.mk hi200_0
                have HC200_0 := Aside0.mk hl200_0
                clear hi200_0 hl200_0
                have HR200_1 := Aside0.mk hi200_1
                have HC200_1 := Aside0.mk hl200_1
                clear hi200_1 hl200_1
                replace p200 := eq_true p200
                replace q200 := eq_true q200
                go_wp2_with (first | ((with_reducible refine gate_callee (f := 101) rfl ?_); refine goesL_ (some 20) rfl rfl Try.func101 (by kernel_rfl) rfl #[.slice A200_0 ((rd_T53 l0 x6_1).f0).length c200_0, .int .i64 a1] rfl (by (try simp only [List.map_toArray, List.map_cons, List.map_nil]); first | done | rfl | (simp only [List.length_drop, List.length_take]; rfl)) ?_; (with_reducible refine (verditerref06_has.calls k1 _ _ ((rd_T53 l0 x6_1).f0) a1 true _ ?side1 ?side2 A5.out).mono ?_); (case side1 => repeat (first | exact (Kd.C_below HR200_0.out HB.out) | (with_reducible refine Kd.C_alloc ?_ _) | (with_reducible refine Kd.C_drewN ?_ _) | (with_reducible refine Kd.C_drew ?_))); (case side2 => exact HC200_0.out); rintro e w' ⟨rfl, ⟨nd, rfl⟩⟩; refine ⟨_, rfl, ?_⟩; have p202 : 0 ≤ (x6_1 : Int) := of_decide_eq_true (by first | (with_reducible assumption) | assumption); have q202 : x6_1 < (l0.length : Int) := of_decide_eq_true (by first | (with_reducible assumption) | assumption); obtain ⟨ad202, A202_0, c202_0, A202_1, c202_1, e202, hx202_0, hx202_1, hl202_0, hi202_0, hl202_1, hi202_1⟩ := at_T53 HR0.out x6_1 p202 q202; obtain rfl : ad200 = ad202 := (by injection e202); replace hx202_0 := (HB.out.cell (World.block_lt_of_cell? w _ hx202_0)).trans hx202_0; replace hx202_1 := (HB.out.cell (World.block_lt_of_cell? w _ hx202_1)).trans hx202_1; have HR202_0 := Aside0.mk hi202_0; have HC202_0 := Aside0.mk hl202_0; clear hi202_0 hl202_0; have HR202_1 := Aside0.mk hi202_1; have HC202_1 := Aside0.mk hl202_1; clear hi202_1 hl202_1; replace p202 := eq_true p202; replace q202 := eq_true q202; have ea_ := Option.some.inj (hx200_0.symm.trans hx202_0); injection ea_ with ea_ en_ ec_; subst ea_; subst ec_; clear en_; have ea_ := Option.some.inj (hx200_1.symm.trans hx202_1); injection ea_ with ea_ en_ ec_; subst ea_; subst ec_; clear en_) | ((with_reducible refine gate_callee (f := 101) rfl ?_); refine goesL_ (some 27) rfl rfl Try.func101 (by kernel_rfl) rfl #[.slice A200_1 ((rd_T53 l0 x6_1).f1).length c200_1, .int .i64 a1] rfl (by (try simp only [List.map_toArray, List.map_cons, List.map_nil]); first | done | rfl | (simp only [List.length_drop, List.length_take]; rfl)) ?_; (with_reducible refine (verditerref06_has.calls k1 _ _ ((rd_T53 l0 x6_1).f1) a1 false _ ?side1 ?side2 A7.out).mono ?_); (case side1 => repeat (first | exact (Kd.C_below HR202_1.out (by repeat (first | (with_reducible first | exact HB.out | apply below_alloc | apply pw_below_drewN | apply below_drew1) | exact HB.out))) | (with_reducible refine Kd.C_alloc ?_ _) | (with_reducible refine Kd.C_drewN ?_ _) | (with_reducible refine Kd.C_drew ?_))); (case side2 => exact HC202_1.out); rintro e w' ⟨rfl, ⟨nd, rfl⟩⟩; refine ⟨_, rfl, ?_⟩) | ((with_reducible refine gate_builtin (b := .append) (xs := #[.tmp 28, .tmp 30]) rfl ?_); at_builtin; refine Kd.R_append (Kd.int .i64) (w0 := w) w.heap.size rfl (.tmp 28) (.tmp 30) 43 3 (.int .i64 0) 8 rfl Try.underlying43 info3 rfl (by decide) (by omega) u5 x5_1 1 [.int .i64 1] (fun _ => True) (fun _ => False) rfl rfl ?aP (fun _ hk => hk.elim) ?aF ?aO ?aB ?aS ?aL ?_; (case aP => exact rfl); (case aB => exact (by repeat (first | (with_reducible first | exact HB.out | apply below_alloc | apply pw_below_drewN | apply below_drew1) | exact HB.out))); (case aF => exact (fun _ _ => trivial)); (case aO => exact (by (with_reducible repeat (first | apply Kd.R_alloc | apply Kd.R_drewN | apply Kd.R_drew)); exact HO_5.out)); (case aS => exact (below_size (by repeat (first | (with_reducible first | exact HB.out | apply below_alloc | apply pw_below_drewN | apply below_drew1) | exact HB.out)))); (case aL => have := LMc11.out; omega); intro v208 w12 ho hb hg hat; rw [← Ny207.out] at ho; have n0_ := Aside0.mk (hb); have n1_ := Aside0.mk (ho); clear HB; clear HO_5; have HB := n0_; have HO209 := n1_; clear n0_ n1_; clear ho hb hg hat))
                go_roundg k1
                case measure => have := HK1.out; omega
                case rel => exact ⟨(y207), (wrap64 (x6_1 + 1)), (by first | rfl | (simp; done) | (simp [*]; done)), H', ⟨by have := HK1.out; omega⟩, ⟨by (with_reducible repeat (first | apply Kd.R_alloc | apply Kd.R_drewN | apply Kd.R_drew)); exact HO209.out⟩, ⟨by repeat (first | (with_reducible first | exact HB.out | apply below_alloc | apply pw_below_drewN | apply below_drew1) | exact HB.out)⟩⟩
              · rw [if_neg c11] at H
                exact absurd H (by simp)
          · replace c6 := Bool.eq_false_iff.mpr c6
            subst c6
            have H1 : ((verditerref06_has.f k1 ((rd_T53 l0 x6_1).f1) a1).bind fun t211 => (if t211 = true then (if x5_1.length < 17592186044416 then (verditerref06_mark.l0 k1 l0 a1 (x5_1 ++ [(-1)]) (wrap64 (x6_1 + 1))) else (none)) else (if x5_1.length < 17592186044416 then (verditerref06_mark.l0 k1 l0 a1 (x5_1 ++ [0]) (wrap64 (x6_1 + 1))) else (none)))) = some r := by rw [if_neg (show ¬ (false = true) by decide)] at H; exact H
            clear H
            have H := H1
            clear H1
            replace H := Option.bind_eq_some_iff.mp H
            obtain ⟨t211, A130, H⟩ := H
            replace H : (if t211 = true then (if x5_1.length < 17592186044416 then (verditerref06_mark.l0 k1 l0 a1 (x5_1 ++ [(-1)]) (wrap64 (x6_1 + 1))) else (none)) else (if x5_1.length < 17592186044416 then (verditerref06_mark.l0 k1 l0 a1 (x5_1 ++ [0]) (wrap64 (x6_1 + 1))) else (none))) = some r := H
            have A13 := Aside0.mk A130
            clear A130
            by_cases c14 : t211 = true
            · subst c14
              have H1 : (if x5_1.length < 17592186044416 then (verditerref06_mark.l0 k1 l0 a1 (x5_1 ++ [(-1)]) (wrap64 (x6_1 + 1))) else (none)) = some r := by rw [if_pos rfl] at H; exact H
              clear H
              have H := H1
              clear H1
              by_cases c15 : x5_1.length < 17592186044416
              · rw [if_pos c15] at H
                have LMc15 := Aside0.mk c15
                clear c15
                obtain ⟨y212, hy212⟩ : ∃ y_ : List Int, y_ = (x5_1 ++ [(-1)]) := ⟨_, rfl⟩
                replace H : (verditerref06_mark.l0 k1 l0 a1 y212 (wrap64 (x6_1 + 1))) = some r := by first | (rw [hy212]; with_reducible exact H) | (have H2_ := (Option.bind_some _ _).symm.trans H; rw [hy212]; with_reducible exact H2_) | (have H2_ := (Option.bind_some _ _).symm.trans H; with_reducible exact H2_) | with_reducible exact H | (rw [hy212]; exact H) | exact H
                have Ny212 := Aside0.mk hy212
                clear hy212
                have H' := Aside0.mk H
                clear H
                have p200 : 0 ≤ (x6_1 : Int) := of_decide_eq_true (by first | (with_reducible assumption) | assumption)
                have q200 : x6_1 < (l0.length : Int) := of_decide_eq_true (by first | (with_reducible assumption) | assumption)
                obtain ⟨ad200, A200_0, c200_0, A200_1, c200_1, e200, hx200_0, hx200_1, hl200_0, hi200_0, hl200_1, hi200_1⟩ := at_T53 HR0.out x6_1 p200 q200
                cases e200
                replace hx200_0 := (HB.out.cell (World.block_lt_of_cell? w _ hx200_0)).trans hx200_0
                replace hx200_1 := (HB.out.cell (World.block_lt_of_cell? w _ hx200_1)).trans hx200_1
                have HR200_0 := Aside0.mk hi200_0
                have HC200_0 := Aside0.mk hl200_0
                clear hi200_0 hl200_0
                have HR200_1 := Aside0.mk hi200_1
                have HC200_1 := Aside0.mk hl200_1
                clear hi200_1 hl200_1
                replace p200 := eq_true p200
                replace q200 := eq_true q200
                go_wp2_with (first | ((with_reducible refine gate_callee (f := 101) rfl ?_); refine goesL_ (some 20) rfl rfl Try.func101 (by kernel_rfl) rfl #[.slice A200_0 ((rd_T53 l0 x6_1).f0).length c200_0, .int .i64 a1] rfl (by (try simp only [List.map_toArray, List.map_cons, List.map_nil]); first | done | rfl | (simp only [List.length_drop, List.length_take]; rfl)) ?_; (with_reducible refine (verditerref06_has.calls k1 _ _ ((rd_T53 l0 x6_1).f0) a1 false _ ?side1 ?side2 A5.out).mono ?_); (case side1 => repeat (first | exact (Kd.C_below HR200_0.out HB.out) | (with_reducible refine Kd.C_alloc ?_ _) | (with_reducible refine Kd.C_drewN ?_ _) | (with_reducible refine Kd.C_drew ?_))); (case side2 => exact HC200_0.out); rintro e w' ⟨rfl, ⟨nd, rfl⟩⟩; refine ⟨_, rfl, ?_⟩; have p210 : 0 ≤ (x6_1 : Int) := of_decide_eq_true (by first | (with_reducible assumption) | assumption); have q210 : x6_1 < (l0.length : Int) := of_decide_eq_true (by first | (with_reducible assumption) | assumption); obtain ⟨ad210, A210_0, c210_0, A210_1, c210_1, e210, hx210_0, hx210_1, hl210_0, hi210_0, hl210_1, hi210_1⟩ := at_T53 HR0.out x6_1 p210 q210; obtain rfl : ad200 = ad210 := (by injection e210); replace hx210_0 := (HB.out.cell (World.block_lt_of_cell? w _ hx210_0)).trans hx210_0; replace hx210_1 := (HB.out.cell (World.block_lt_of_cell? w _ hx210_1)).trans hx210_1; have HR210_0 := Aside0.mk hi210_0; have HC210_0 := Aside0.mk hl210_0; clear hi210_0 hl210_0; have HR210_1 := Aside0.mk hi210_1; have HC210_1 := Aside0.mk hl210_1; clear hi210_1 hl210_1; replace p210 := eq_true p210; replace q210 := eq_true q210; have ea_ := Option.some.inj (hx200_0.symm.trans hx210_0); injection ea_ with ea_ en_ ec_; subst ea_; subst ec_; clear en_; have ea_ := Option.some.inj (hx200_1.symm.trans hx210_1); injection ea_ with ea_ en_ ec_; subst ea_; subst ec_; clear en_) | ((with_reducible refine gate_callee (f := 101) rfl ?_); refine goesL_ (some 27) rfl rfl Try.func101 (by kernel_rfl) rfl #[.slice A200_1 ((rd_T53 l0 x6_1).f1).length c200_1, .int .i64 a1] rfl (by (try simp only [List.map_toArray, List.map_cons, List.map_nil]); first | done | rfl | (simp only [List.length_drop, List.length_take]; rfl)) ?_; (with_reducible refine (verditerref06_has.calls k1 _ _ ((rd_T53 l0 x6_1).f1) a1 true _ ?side1 ?side2 A13.out).mono ?_); (case side1 => repeat (first | exact (Kd.C_below HR210_1.out (by repeat (first | (with_reducible first | exact HB.out | apply below_alloc | apply pw_below_drewN | apply below_drew1) | exact HB.out))) | (with_reducible refine Kd.C_alloc ?_ _) | (with_reducible refine Kd.C_drewN ?_ _) | (with_reducible refine Kd.C_drew ?_))); (case side2 => exact HC210_1.out); rintro e w' ⟨rfl, ⟨nd, rfl⟩⟩; refine ⟨_, rfl, ?_⟩) | ((with_reducible refine gate_builtin (b := .append) (xs := #[.tmp 28, .tmp 30]) rfl ?_); at_builtin; refine Kd.R_append (Kd.int .i64) (w0 := w) w.heap.size rfl (.tmp 28) (.tmp 30) 43 3 (.int .i64 0) 8 rfl Try.underlying43 info3 rfl (by decide) (by omega) u5 x5_1 (-1) [.int .i64 (-1)] (fun _ => True) (fun _ => False) rfl rfl ?aP (fun _ hk => hk.elim) ?aF ?aO ?aB ?aS ?aL ?_; (case aP => exact rfl); (case aB => exact (by repeat (first | (with_reducible first | exact HB.out | apply below_alloc | apply pw_below_drewN | apply below_drew1) | exact HB.out))); (case aF => exact (fun _ _ => trivial)); (case aO => exact (by (with_reducible repeat (first | apply Kd.R_alloc | apply Kd.R_drewN | apply Kd.R_drew)); exact HO_5.out)); (case aS => exact (below_size (by repeat (first | (with_reducible first | exact HB.out | apply below_alloc | apply pw_below_drewN | apply below_drew1) | exact HB.out)))); (case aL => have := LMc15.out; omega); intro v213 w16 ho hb hg hat; rw [← Ny212.out] at ho; have n0_ := Aside0.mk (hb); have n1_ := Aside0.mk (ho); clear HB; clear HO_5; have HB := n0_; have HO214 := n1_; clear n0_ n1_; clear ho hb hg hat))
                go_roundg k1
                case measure => have := HK1.out; omega
                case rel => exact ⟨(y212), (wrap64 (x6_1 + 1)), (by first | rfl | (simp; done) | (simp [*]; done)), H', ⟨by have := HK1.out; omega⟩, ⟨by (with_reducible repeat (first | apply Kd.R_alloc | apply Kd.R_drewN | apply Kd.R_drew)); exact HO214.out⟩, ⟨by repeat (first | (with_reducible first | exact HB.out | apply below_alloc | apply pw_below_drewN | apply below_drew1) | exact HB.out)⟩⟩
              · rw [if_neg c15] at H
                exact absurd H (by simp)
            · replace c14 := Bool.eq_false_iff.mpr c14
              subst c14
              have H1 : (if x5_1.length < 17592186044416 then (verditerref06_mark.l0 k1 l0 a1 (x5_1 ++ [0]) (wrap64 (x6_1 + 1))) else (none)) = some r := by rw [if_neg (show ¬ (false = true) by decide)] at H; exact H
              clear H
              have H := H1
              clear H1
              by_cases c17 : x5_1.length < 17592186044416
              · rw [if_pos c17] at H
                have LMc17 := Aside0.mk c17
                clear c17
                obtain ⟨y215, hy215⟩ : ∃ y_ : List Int, y_ = (x5_1 ++ [0]) := ⟨_, rfl⟩
                replace H : (verditerref06_mark.l0 k1 l0 a1 y215 (wrap64 (x6_1 + 1))) = some r := by first | (rw [hy215]; with_reducible exact H) | (have H2_ := (Option.bind_some _ _).symm.trans H; rw [hy215]; with_reducible exact H2_) | (have H2_ := (Option.bind_some _ _).symm.trans H; with_reducible exact H2_) | with_reducible exact H | (rw [hy215]; exact H) | exact H
                have Ny215 := Aside0.mk hy215
                clear hy215
                have H' := Aside0.mk H
                clear H
                have p200 : 0 ≤ (x6_1 : Int) := of_decide_eq_true (by first | (with_reducible assumption) | assumption)
                have q200 : x6_1 < (l0.length : Int) := of_decide_eq_true (by first | (with_reducible assumption) | assumption)
                obtain ⟨ad200, A200_0, c200_0, A200_1, c200_1, e200, hx200_0, hx200_1, hl200_0, hi200_0, hl200_1, hi200_1⟩ := at_T53 HR0.out x6_1 p200 q200
                cases e200
                replace hx200_0 := (HB.out.cell (World.block_lt_of_cell? w _ hx200_0)).trans hx200_0
                replace hx200_1 := (HB.out.cell (World.block_lt_of_cell? w _ hx200_1)).trans hx200_1
                have HR200_0 := Aside0.mk hi200_0
                have HC200_0 := Aside0.mk hl200_0
                clear hi200_0 hl200_0
                have HR200_1 := Aside0.mk hi200_1
                have HC200_1 := Aside0.mk hl200_1
                clear hi200_1 hl200_1
                replace p200 := eq_true p200
                replace q200 := eq_true q200
                go_wp2_with (first | ((with_reducible refine gate_callee (f := 101) rfl ?_); refine goesL_ (some 20) rfl rfl Try.func101 (by kernel_rfl) rfl #[.slice A200_0 ((rd_T53 l0 x6_1).f0).length c200_0, .int .i64 a1] rfl (by (try simp only [List.map_toArray, List.map_cons, List.map_nil]); first | done | rfl | (simp only [List.length_drop, List.length_take]; rfl)) ?_; (with_reducible refine (verditerref06_has.calls k1 _ _ ((rd_T53 l0 x6_1).f0) a1 false _ ?side1 ?side2 A5.out).mono ?_); (case side1 => repeat (first | exact (Kd.C_below HR200_0.out HB.out) | (with_reducible refine Kd.C_alloc ?_ _) | (with_reducible refine Kd.C_drewN ?_ _) | (with_reducible refine Kd.C_drew ?_))); (case side2 => exact HC200_0.out); rintro e w' ⟨rfl, ⟨nd, rfl⟩⟩; refine ⟨_, rfl, ?_⟩; have p210 : 0 ≤ (x6_1 : Int) := of_decide_eq_true (by first | (with_reducible assumption) | assumption); have q210 : x6_1 < (l0.length : Int) := of_decide_eq_true (by first | (with_reducible assumption) | assumption); obtain ⟨ad210, A210_0, c210_0, A210_1, c210_1, e210, hx210_0, hx210_1, hl210_0, hi210_0, hl210_1, hi210_1⟩ := at_T53 HR0.out x6_1 p210 q210; obtain rfl : ad200 = ad210 := (by injection e210); replace hx210_0 := (HB.out.cell (World.block_lt_of_cell? w _ hx210_0)).trans hx210_0; replace hx210_1 := (HB.out.cell (World.block_lt_of_cell? w _ hx210_1)).trans hx210_1; have HR210_0 := Aside0.mk hi210_0; have HC210_0 := Aside0.mk hl210_0; clear hi210_0 hl210_0; have HR210_1 := Aside0.mk hi210_1; have HC210_1 := Aside0.mk hl210_1; clear hi210_1 hl210_1; replace p210 := eq_true p210; replace q210 := eq_true q210; have ea_ := Option.some.inj (hx200_0.symm.trans hx210_0); injection ea_ with ea_ en_ ec_; subst ea_; subst ec_; clear en_; have ea_ := Option.some.inj (hx200_1.symm.trans hx210_1); injection ea_ with ea_ en_ ec_; subst ea_; subst ec_; clear en_) | ((with_reducible refine gate_callee (f := 101) rfl ?_); refine goesL_ (some 27) rfl rfl Try.func101 (by kernel_rfl) rfl #[.slice A200_1 ((rd_T53 l0 x6_1).f1).length c200_1, .int .i64 a1] rfl (by (try simp only [List.map_toArray, List.map_cons, List.map_nil]); first | done | rfl | (simp only [List.length_drop, List.length_take]; rfl)) ?_; (with_reducible refine (verditerref06_has.calls k1 _ _ ((rd_T53 l0 x6_1).f1) a1 false _ ?side1 ?side2 A13.out).mono ?_); (case side1 => repeat (first | exact (Kd.C_below HR210_1.out (by repeat (first | (with_reducible first | exact HB.out | apply below_alloc | apply pw_below_drewN | apply below_drew1) | exact HB.out))) | (with_reducible refine Kd.C_alloc ?_ _) | (with_reducible refine Kd.C_drewN ?_ _) | (with_reducible refine Kd.C_drew ?_))); (case side2 => exact HC210_1.out); rintro e w' ⟨rfl, ⟨nd, rfl⟩⟩; refine ⟨_, rfl, ?_⟩) | ((with_reducible refine gate_builtin (b := .append) (xs := #[.tmp 28, .tmp 30]) rfl ?_); at_builtin; refine Kd.R_append (Kd.int .i64) (w0 := w) w.heap.size rfl (.tmp 28) (.tmp 30) 43 3 (.int .i64 0) 8 rfl Try.underlying43 info3 rfl (by decide) (by omega) u5 x5_1 0 [.int .i64 0] (fun _ => True) (fun _ => False) rfl rfl ?aP (fun _ hk => hk.elim) ?aF ?aO ?aB ?aS ?aL ?_; (case aP => exact rfl); (case aB => exact (by repeat (first | (with_reducible first | exact HB.out | apply below_alloc | apply pw_below_drewN | apply below_drew1) | exact HB.out))); (case aF => exact (fun _ _ => trivial)); (case aO => exact (by (with_reducible repeat (first | apply Kd.R_alloc | apply Kd.R_drewN | apply Kd.R_drew)); exact HO_5.out)); (case aS => exact (below_size (by repeat (first | (with_reducible first | exact HB.out | apply below_alloc | apply pw_below_drewN | apply below_drew1) | exact HB.out)))); (case aL => have := LMc17.out; omega); intro v216 w18 ho hb hg hat; rw [← Ny215.out] at ho; have n0_ := Aside0.mk (hb); have n1_ := Aside0.mk (ho); clear HB; clear HO_5; have HB := n0_; have HO217 := n1_; clear n0_ n1_; clear ho hb hg hat))
                go_roundg k1
                case measure => have := HK1.out; omega
                case rel => exact ⟨(y215), (wrap64 (x6_1 + 1)), (by first | rfl | (simp; done) | (simp [*]; done)), H', ⟨by have := HK1.out; omega⟩, ⟨by (with_reducible repeat (first | apply Kd.R_alloc | apply Kd.R_drewN | apply Kd.R_drew)); exact HO217.out⟩, ⟨by repeat (first | (with_reducible first | exact HB.out | apply below_alloc | apply pw_below_drewN | apply below_drew1) | exact HB.out)⟩⟩
              · rw [if_neg c17] at H
                exact absurd H (by simp)
        · rw [if_neg c4] at H
          exact absurd H (by simp)
      · rw [if_neg c3] at H
        have c3b0 : decide (x6_1 < (l0.length : Int)) = false := decide_eq_false c3
        clear c3
        obtain rfl := Option.some.inj H
        go_wp2
        go_ret
        exact ⟨_, by first | rfl | (simp [errW_none, errW_some] <;> rfl) | (simp [*, errW_none, errW_some] <;> rfl), by (with_reducible repeat (first | apply Kd.R_alloc | apply Kd.R_drewN | apply Kd.R_drew)); exact HO_5.out, by repeat (first | (with_reducible first | exact HB.out | apply below_alloc | apply pw_below_drewN | apply below_drew1) | exact HB.out)⟩

end Go.Proofs.Ytdbeochifofdoaa.X
end

section
-- Written by a program of this session (wip/hook.py, which runs the kit's print.py with contracts proved by hand). Not trusted: Lean checks it.
namespace Go.Proofs.Ytdbeochifofdoaa.X
open Go.RowKit Go.Proofs.YtdbeochifofdoaaW.PrintWords Go.Proofs.YtdbeochifofdoaaW.PrintLast Go.Proofs.YtdbeochifofdoaaW.PrintMore
attribute [local go_sem] max2_int min2_int max_two min_two max_three min_three max_four min_four   -- for this text's walks alone
set_option linter.unusedVariables false
set_option linter.unusedSimpArgs false

/-! ### verditerref06_Marks: function 66 -/
def verditerref06_Marks.l0 : Nat → Int → List (S53) → List (List Int) → Int → Option ((List (List Int)) × Int)
  | 0, _, _, _, _ => none
  | k + 1, x0, x1, x7, x8 => if x8 < x0 then ((verditerref06_mark.f k x1 x8).bind fun t495 => (if x7.length < 5864062014805 then (verditerref06_Marks.l0 k x0 x1 (x7 ++ [t495]) (wrap64 (x8 + 1))) else (none))) else (some (x7, 0))
def verditerref06_Marks.f (k : Nat) (a0 : Int) (l1 : List (S53)) : Option ((List (List Int)) × Int) := (verditerref06_Validate.f k a0 l1).bind fun t494 => (if t494 = 0 then (verditerref06_Marks.l0 k a0 l1 ([] : List (List Int)) 0) else (some (([] : List (List Int)), t494)))
theorem verditerref06_Marks.mono_l : ∀ k, (∀ y0 y1 y2 y3, LeO (verditerref06_Marks.l0 k y0 y1 y2 y3) (verditerref06_Marks.l0 (k + 1) y0 y1 y2 y3))
  | 0 => fun _ _ _ _ r h => by simp [verditerref06_Marks.l0] at h
  | k + 1 => by
    have ih0 := verditerref06_Marks.mono_l k
    · intro y0 y1 y2 y3
      unfold verditerref06_Marks.l0
      repeat' first
      | (with_reducible exact ih0 _ _ _ _)
      | (with_reducible exact verditerref06_Validate.mono _ _ _)
      | (with_reducible exact verditerref06_mark.mono _ _ _)
      | (with_reducible exact LeO.refl _)
      | (with_reducible exact LeO.none _)
      | (with_reducible refine LeO.ite ?_ ?_)
      | (with_reducible refine LeO.bind ?_ (fun _ => ?_))
      | exact ih0 _ _ _ _
      | exact verditerref06_Validate.mono _ _ _
      | exact verditerref06_mark.mono _ _ _
      | exact LeO.none _
      | refine LeO.ite ?_ ?_
      | refine LeO.bind ?_ (fun _ => ?_)
theorem verditerref06_Marks.mono : ∀ a0 a1 k, LeO (verditerref06_Marks.f k a0 a1) (verditerref06_Marks.f (k + 1) a0 a1) := by
  intro a0 a1 k
  have ih0 := verditerref06_Marks.mono_l k
  unfold verditerref06_Marks.f
  repeat' first
      | (with_reducible exact ih0 _ _ _ _)
      | (with_reducible exact verditerref06_Validate.mono _ _ _)
      | (with_reducible exact verditerref06_mark.mono _ _ _)
      | (with_reducible exact LeO.refl _)
      | (with_reducible exact LeO.none _)
      | (with_reducible refine LeO.ite ?_ ?_)
      | (with_reducible refine LeO.bind ?_ (fun _ => ?_))
      | exact ih0 _ _ _ _
      | exact verditerref06_Validate.mono _ _ _
      | exact verditerref06_mark.mono _ _ _
      | exact LeO.none _
      | refine LeO.ite ?_ ?_
      | refine LeO.bind ?_ (fun _ => ?_)
set_option maxHeartbeats 8000000 in
set_option maxRecDepth 100000 in
theorem verditerref06_Marks.calls (k : Nat) (a0 : Int) (A1 : Option Addr) (c1 : Nat) (l1 : List (S53)) (r1 : List (List Int)) (r2 : Int) (w : World) (hr1 : Kd.C k53 w A1 l1.length l1) (hc1 : l1.length ≤ c1) (h : verditerref06_Marks.f k a0 l1 = some (r1, r2)) :
    Calls Try.prog 66 #[.int .i64 a0, .slice A1 l1.length c1] w fun e w' => ∃ v0_ : Value, e = .returned (.tuple #[v0_, .int .i64 r2]) ∧ Kd.S (Kd.slice 3 (Kd.int .i64)) 43 w' w.heap.size (fun _ => True) v0_ r1 ∧ Below w.heap.size w w' := by
  have HR1 := Aside0.mk hr1
  have HC1 := Aside0.mk hc1
  clear hr1 hc1
  have HB := Aside0.mk (Below.refl w.heap.size w)
  have H : ((verditerref06_Validate.f k a0 l1).bind fun t494 => (if t494 = 0 then (verditerref06_Marks.l0 k a0 l1 ([] : List (List Int)) 0) else (some (([] : List (List Int)), t494)))) = some (r1, r2) := h
  clear h
  replace H := Option.bind_eq_some_iff.mp H
  obtain ⟨t494, A30, H⟩ := H
  replace H : (if t494 = 0 then (verditerref06_Marks.l0 k a0 l1 ([] : List (List Int)) 0) else (some (([] : List (List Int)), t494))) = some (r1, r2) := H
  have A3 := Aside0.mk A30
  clear A30
  by_cases c4 : t494 = 0
  · rw [if_pos c4] at H
    have c4b0 : (t494 == 0) = true := beq_iff_eq.mpr c4
    have c4b1 : (t494 != 0) = false := bne_eq_false_iff_eq.mpr c4
    clear c4
    have H' := Aside0.mk H
    clear H
    go_enter Try.func66, Try.ntmps66
    go_wp2_with (first | ((with_reducible refine gate_callee (f := 59) rfl ?_); refine goesL_ (some 11) rfl rfl Try.func59 (by kernel_rfl) rfl #[.int .i64 a0, .slice A1 l1.length c1] rfl (by (try simp only [List.map_toArray, List.map_cons, List.map_nil]); first | done | rfl | (simp only [List.length_drop, List.length_take]; rfl)) ?_; (with_reducible refine (verditerref06_Validate.calls k a0 _ _ l1 t494 _ ?side1 ?side2 A3.out).mono ?_); (case side1 => repeat (first | exact HR1.out | (with_reducible refine Kd.C_alloc ?_ _) | (with_reducible refine Kd.C_drewN ?_ _) | (with_reducible refine Kd.C_drew ?_))); (case side2 => exact HC1.out); rintro e w' ⟨rfl, ⟨nd, rfl⟩⟩; refine ⟨_, rfl, ?_⟩))
    go_loopg [7, 8] k (fun kq v7 v8 w' => ∃ (x7_1 : List (List Int)) (x8_1 : Int), v8 = .int .i64 x8_1 ∧ Aside0 (verditerref06_Marks.l0 kq a0 l1 x7_1 x8_1 = some (r1, r2)) ∧ Aside0 (kq ≤ k) ∧ Aside0 (Kd.S (Kd.slice 3 (Kd.int .i64)) 43 w' w.heap.size (fun _ => True) v7 x7_1) ∧ Aside0 (Below w.heap.size w w'))
    case atStart => exact ⟨(([] : List (List Int))), (0), (by first | rfl | (simp; done) | (simp [*]; done)), H', ⟨Nat.le_refl _⟩, ⟨by first | exact Kd.S_nil _ _ _ _ _ | exact Kd.N_nil _ _ _ _ _ | exact Kd.V_nil _ _ _ _ _ | exact Kd.Q_nil _ _ _ _ _ | exact Kd.R_nil _ _ _ _ _⟩, ⟨by repeat (first | (with_reducible first | exact HB.out | apply below_alloc | apply pw_below_drewN | apply below_drew1) | exact HB.out)⟩⟩
    case round =>
      clear H'
      try clear c1
      try clear p2
      try clear c4
      try clear c4b0
      try clear c4b1
      obtain ⟨x7_1, x8_1, rfl, HA, HK1, HO_7, HB⟩ := hrel
      cases gk with
      | zero => exact absurd HA.out (by simp [verditerref06_Marks.l0])
      | succ k1 =>
        have H := HA.out
        clear HA
        simp only [verditerref06_Marks.l0] at H
        by_cases c5 : x8_1 < a0
        · rw [if_pos c5] at H
          have c5b0 : decide (x8_1 < a0) = true := decide_eq_true c5
          clear c5
          replace H := Option.bind_eq_some_iff.mp H
          obtain ⟨t495, A60, H⟩ := H
          replace H : (if x7_1.length < 5864062014805 then (verditerref06_Marks.l0 k1 a0 l1 (x7_1 ++ [t495]) (wrap64 (x8_1 + 1))) else (none)) = some (r1, r2) := H
          have A6 := Aside0.mk A60
          clear A60
          by_cases c7 : x7_1.length < 5864062014805
          · rw [if_pos c7] at H
            have LMc7 := Aside0.mk c7
            clear c7
            obtain ⟨y498, hy498⟩ : ∃ y_ : List (List Int), y_ = (x7_1 ++ [t495]) := ⟨_, rfl⟩
            replace H : (verditerref06_Marks.l0 k1 a0 l1 y498 (wrap64 (x8_1 + 1))) = some (r1, r2) := by first | (rw [hy498]; with_reducible exact H) | (have H2_ := (Option.bind_some _ _).symm.trans H; rw [hy498]; with_reducible exact H2_) | (have H2_ := (Option.bind_some _ _).symm.trans H; with_reducible exact H2_) | with_reducible exact H | (rw [hy498]; exact H) | exact H
            have Ny498 := Aside0.mk hy498
            clear hy498
            have H' := Aside0.mk H
            clear H
            go_wp2_with (first | ((with_reducible refine gate_callee (f := 80) rfl ?_); refine goesL_ (some 23) rfl rfl Try.func80 (by kernel_rfl) rfl #[.slice A1 l1.length c1, .int .i64 x8_1] rfl (by (try simp only [List.map_toArray, List.map_cons, List.map_nil]); first | done | rfl | (simp only [List.length_drop, List.length_take]; rfl)) ?_; (with_reducible refine (verditerref06_mark.calls k1 _ _ l1 x8_1 t495 _ ?side1 ?side2 A6.out).mono ?_); (case side1 => repeat (first | exact (Kd.C_below HR1.out HB.out) | (with_reducible refine Kd.C_alloc ?_ _) | (with_reducible refine Kd.C_drewN ?_ _) | (with_reducible refine Kd.C_drew ?_))); (case side2 => exact HC1.out); rintro e w8 ⟨v496, rfl, ho0, hb⟩; refine ⟨_, rfl, ?_⟩; have n0_ := Aside0.mk (Kd.S_elder' (by (with_reducible repeat (first | apply Kd.S_alloc | apply Kd.S_drewN | apply Kd.S_drew)); exact HO_7.out) (Kd.R_base ho0) hb); have n1_ := Aside0.mk (Kd.R_lower ho0 (below_size (by repeat (first | (with_reducible first | exact HB.out | apply below_alloc | apply pw_below_drewN | apply below_drew1) | exact HB.out)))); have n2_ := Aside0.mk (below_step (by repeat (first | (with_reducible first | exact HB.out | apply below_alloc | apply pw_below_drewN | apply below_drew1) | exact HB.out)) hb); clear HO_7; clear HB; have HO_7 := n0_; have HO497 := n1_; have HB := n2_; clear n0_ n1_ n2_; (try clear hb); (try clear hb2); (try clear hk); (try clear hi); (try clear ho0); obtain ⟨Ao10, co10, eo10⟩ := Kd.R_slice HO497.out; subst eo10) | ((with_reducible refine gate_builtin (b := .append) (xs := #[.tmp 20, .tmp 24]) rfl ?_); at_builtin; refine Kd.S_append (Kd.slice 3 (Kd.int .i64)) (w0 := w) w.heap.size rfl (.tmp 20) (.tmp 24) 47 43 (.slice none 0 0) 24 rfl Try.underlying47 info43 rfl (by decide) (by omega) u7 x7_1 t495 [.slice Ao10 t495.length co10] (fun _ => True) (fun k_ => some k_ = (.slice Ao10 t495.length co10 : Value).ownBlock) rfl rfl ?aP (fun k_ hk_ => ((Kd.R_mono (ok' := fun k_ => ((fun _ => True)) k_ ∧ some k_ ≠ (u7 : Value).ownBlock) (Kd.R_apart' (HO497.out) (Kd.S_typed HO_7.out) (by decide)) (fun k_ hk => ⟨trivial, hk.2⟩))).1 k_ hk_.symm) ?aF ?aO ?aB ?aS ?aL ?_; (case aP => exact Kd.M_row (Kd.R_mono (Kd.R_tight rfl (Kd.R_mono (ok' := fun k_ => ((fun _ => True)) k_ ∧ some k_ ≠ (u7 : Value).ownBlock) (Kd.R_apart' (HO497.out) (Kd.S_typed HO_7.out) (by decide)) (fun k_ hk => ⟨trivial, hk.2⟩))) (fun _ h_ => h_))); (case aB => exact (by repeat (first | (with_reducible first | exact HB.out | apply below_alloc | apply pw_below_drewN | apply below_drew1) | exact HB.out))); (case aF => exact (fun _ _ => trivial)); (case aO => exact (by (with_reducible repeat (first | apply Kd.S_alloc | apply Kd.S_drewN | apply Kd.S_drew)); exact Kd.S_mono HO_7.out (fun k_ hk => ⟨trivial, fun e_ => hk.2 e_⟩))); (case aS => exact (below_size (by repeat (first | (with_reducible first | exact HB.out | apply below_alloc | apply pw_below_drewN | apply below_drew1) | exact HB.out)))); (case aL => have := LMc7.out; omega); intro v499 w9 ho hb hg hat; rw [← Ny498.out] at ho; have n0_ := Aside0.mk (hb); have n1_ := Aside0.mk (ho); clear HB; clear HO_7; clear HO497; have HB := n0_; have HO500 := n1_; clear n0_ n1_; clear ho hb hg hat))
            go_roundg k1
            case measure => have := HK1.out; omega
            case rel => exact ⟨(y498), (wrap64 (x8_1 + 1)), (by first | rfl | (simp; done) | (simp [*]; done)), H', ⟨by have := HK1.out; omega⟩, ⟨by (with_reducible repeat (first | apply Kd.S_alloc | apply Kd.S_drewN | apply Kd.S_drew)); exact HO500.out⟩, ⟨by repeat (first | (with_reducible first | exact HB.out | apply below_alloc | apply pw_below_drewN | apply below_drew1) | exact HB.out)⟩⟩
          · rw [if_neg c7] at H
            exact absurd H (by simp)
        · rw [if_neg c5] at H
          have c5b0 : decide (x8_1 < a0) = false := decide_eq_false c5
          clear c5
          simp only [Option.some.injEq, Prod.mk.injEq] at H
          obtain ⟨rfl, rfl⟩ := H
          go_wp2
          go_ret2
          exact ⟨_, by first | rfl | (simp [errW_none, errW_some] <;> rfl) | (simp [*, errW_none, errW_some] <;> rfl), by (with_reducible repeat (first | apply Kd.S_alloc | apply Kd.S_drewN | apply Kd.S_drew)); exact HO_7.out, by repeat (first | (with_reducible first | exact HB.out | apply below_alloc | apply pw_below_drewN | apply below_drew1) | exact HB.out)⟩
  · rw [if_neg c4] at H
    have c4b0 : (t494 == 0) = false := beq_eq_false_iff_ne.mpr c4
    have c4b1 : (t494 != 0) = true := bne_iff_ne.mpr c4
    simp only [Option.some.injEq, Prod.mk.injEq] at H
    obtain ⟨rfl, rfl⟩ := H
    go_enter Try.func66, Try.ntmps66
    go_wp2_with (first | ((with_reducible refine gate_callee (f := 59) rfl ?_); refine goesL_ (some 11) rfl rfl Try.func59 (by kernel_rfl) rfl #[.int .i64 a0, .slice A1 l1.length c1] rfl (by (try simp only [List.map_toArray, List.map_cons, List.map_nil]); first | done | rfl | (simp only [List.length_drop, List.length_take]; rfl)) ?_; (with_reducible refine (verditerref06_Validate.calls k a0 _ _ l1 t494 _ ?side1 ?side2 A3.out).mono ?_); (case side1 => repeat (first | exact HR1.out | (with_reducible refine Kd.C_alloc ?_ _) | (with_reducible refine Kd.C_drewN ?_ _) | (with_reducible refine Kd.C_drew ?_))); (case side2 => exact HC1.out); rintro e w' ⟨rfl, ⟨nd, rfl⟩⟩; refine ⟨_, rfl, ?_⟩))
    go_ret2
    exact ⟨_, by first | rfl | (simp [errW_none, errW_some] <;> rfl) | (simp [*, errW_none, errW_some] <;> rfl), by first | exact Kd.S_nil _ _ _ _ _ | exact Kd.N_nil _ _ _ _ _ | exact Kd.V_nil _ _ _ _ _ | exact Kd.Q_nil _ _ _ _ _ | exact Kd.R_nil _ _ _ _ _, by repeat (first | (with_reducible first | exact HB.out | apply below_alloc | apply pw_below_drewN | apply below_drew1) | exact HB.out)⟩

end Go.Proofs.Ytdbeochifofdoaa.X
end

section
-- Written by a program of this session (wip/hook.py, which runs the kit's print.py with contracts proved by hand). Not trusted: Lean checks it.
namespace Go.Proofs.Ytdbeochifofdoaa.X
open Go.RowKit Go.Proofs.YtdbeochifofdoaaW.PrintWords Go.Proofs.YtdbeochifofdoaaW.PrintLast Go.Proofs.YtdbeochifofdoaaW.PrintMore
attribute [local go_sem] max2_int min2_int max_two min_two max_three min_three max_four min_four   -- for this text's walks alone
set_option linter.unusedVariables false
set_option linter.unusedSimpArgs false

/-! ### verditerref06_Same: function 68 -/
def verditerref06_Same.l0 : Nat → List (S53) → List (S53) → Int → Option (Bool)
  | 0, _, _, _ => none
  | k + 1, x0, x1, x5 => if x5 < (x0.length : Int) then (if 0 ≤ x5 then (if x5 < (x1.length : Int) then ((verditerref06_SameInts.f k ((rd_T53 x0 x5).f0) ((rd_T53 x1 x5).f0)).bind fun t503 => (if t503 = true then ((verditerref06_SameInts.f k ((rd_T53 x0 x5).f1) ((rd_T53 x1 x5).f1)).bind fun t506 => (if t506 = true then (verditerref06_Same.l0 k x0 x1 (wrap64 (x5 + 1))) else (some false))) else (some false))) else (none)) else (none)) else (some true)
def verditerref06_Same.f (k : Nat) (l0 : List (S53)) (l1 : List (S53)) : Option (Bool) := if (l0.length : Int) = (l1.length : Int) then (verditerref06_Same.l0 k l0 l1 0) else (some false)
theorem verditerref06_Same.mono_l : ∀ k, (∀ y0 y1 y2, LeO (verditerref06_Same.l0 k y0 y1 y2) (verditerref06_Same.l0 (k + 1) y0 y1 y2))
  | 0 => fun _ _ _ r h => by simp [verditerref06_Same.l0] at h
  | k + 1 => by
    have ih0 := verditerref06_Same.mono_l k
    · intro y0 y1 y2
      unfold verditerref06_Same.l0
      repeat' first
      | (with_reducible exact ih0 _ _ _)
      | (with_reducible exact verditerref06_SameInts.mono _ _ _)
      | (with_reducible exact LeO.refl _)
      | (with_reducible exact LeO.none _)
      | (with_reducible refine LeO.ite ?_ ?_)
      | (with_reducible refine LeO.bind ?_ (fun _ => ?_))
      | exact ih0 _ _ _
      | exact verditerref06_SameInts.mono _ _ _
      | exact LeO.none _
      | refine LeO.ite ?_ ?_
      | refine LeO.bind ?_ (fun _ => ?_)
theorem verditerref06_Same.mono : ∀ a0 a1 k, LeO (verditerref06_Same.f k a0 a1) (verditerref06_Same.f (k + 1) a0 a1) := by
  intro a0 a1 k
  have ih0 := verditerref06_Same.mono_l k
  unfold verditerref06_Same.f
  repeat' first
      | (with_reducible exact ih0 _ _ _)
      | (with_reducible exact verditerref06_SameInts.mono _ _ _)
      | (with_reducible exact LeO.refl _)
      | (with_reducible exact LeO.none _)
      | (with_reducible refine LeO.ite ?_ ?_)
      | (with_reducible refine LeO.bind ?_ (fun _ => ?_))
      | exact ih0 _ _ _
      | exact verditerref06_SameInts.mono _ _ _
      | exact LeO.none _
      | refine LeO.ite ?_ ?_
      | refine LeO.bind ?_ (fun _ => ?_)
set_option maxHeartbeats 8000000 in
set_option maxRecDepth 100000 in
theorem verditerref06_Same.calls (k : Nat) (A0 : Option Addr) (c0 : Nat) (l0 : List (S53)) (A1 : Option Addr) (c1 : Nat) (l1 : List (S53)) (r : Bool) (w : World) (hr0 : Kd.C k53 w A0 l0.length l0) (hc0 : l0.length ≤ c0) (hr1 : Kd.C k53 w A1 l1.length l1) (hc1 : l1.length ≤ c1) (h : verditerref06_Same.f k l0 l1 = some r) :
    Calls Try.prog 68 #[.slice A0 l0.length c0, .slice A1 l1.length c1] w fun e w' => e = .returned (.bool r) ∧ Drawn0 w w' := by
  have HR0 := Aside0.mk hr0
  have HC0 := Aside0.mk hc0
  clear hr0 hc0
  have HR1 := Aside0.mk hr1
  have HC1 := Aside0.mk hc1
  clear hr1 hc1
  have H : (if (l0.length : Int) = (l1.length : Int) then (verditerref06_Same.l0 k l0 l1 0) else (some false)) = some r := h
  clear h
  by_cases c3 : (l0.length : Int) = (l1.length : Int)
  · rw [if_pos c3] at H
    have c3b0 : ((l0.length : Int) == (l1.length : Int)) = true := beq_iff_eq.mpr c3
    have c3b1 : ((l0.length : Int) != (l1.length : Int)) = false := bne_eq_false_iff_eq.mpr c3
    have c3b2 : (l0.length == l1.length) = true := by first | simpa using c3 | (simp at c3 ⊢; omega)
    clear c3
    have H' := Aside0.mk H
    clear H
    go_enter Try.func68, Try.ntmps68
    go_wp2
    repeat (go_quiet (fail); try go_wp2)
    go_loopg [5] k (fun kq v5 w' => ∃ (x5_1 : Int), v5 = .int .i64 x5_1 ∧ Aside0 (verditerref06_Same.l0 kq l0 l1 x5_1 = some r) ∧ Aside0 (kq ≤ k) ∧ Drawn0 w w')
    case atStart => exact ⟨(0), (by first | rfl | (simp; done) | (simp [*]; done)), H', ⟨Nat.le_refl _⟩, by repeat (first | exact Drawn0.refl _ | apply Drawn0.step)⟩
    case round =>
      clear H'
      try clear c1
      try clear p2
      try clear c3
      try clear c3b0
      try clear c3b1
      try clear c3b2
      obtain ⟨x5_1, rfl, HA, HK1, ⟨m1, rfl⟩⟩ := hrel
      cases gk with
      | zero => exact absurd HA.out (by simp [verditerref06_Same.l0])
      | succ k1 =>
        have H := HA.out
        clear HA
        simp only [verditerref06_Same.l0] at H
        by_cases c4 : x5_1 < (l0.length : Int)
        · rw [if_pos c4] at H
          have c4b0 : decide (x5_1 < (l0.length : Int)) = true := decide_eq_true c4
          clear c4
          by_cases c5 : 0 ≤ x5_1
          · rw [if_pos c5] at H
            have c5b0 : decide (0 ≤ x5_1) = true := decide_eq_true c5
            clear c5
            by_cases c6 : x5_1 < (l1.length : Int)
            · rw [if_pos c6] at H
              have c6b0 : decide (x5_1 < (l1.length : Int)) = true := decide_eq_true c6
              clear c6
              replace H := Option.bind_eq_some_iff.mp H
              obtain ⟨t503, A70, H⟩ := H
              replace H : (if t503 = true then ((verditerref06_SameInts.f k1 ((rd_T53 l0 x5_1).f1) ((rd_T53 l1 x5_1).f1)).bind fun t506 => (if t506 = true then (verditerref06_Same.l0 k1 l0 l1 (wrap64 (x5_1 + 1))) else (some false))) else (some false)) = some r := H
              have A7 := Aside0.mk A70
              clear A70
              by_cases c8 : t503 = true
              · subst c8
                have H1 : ((verditerref06_SameInts.f k1 ((rd_T53 l0 x5_1).f1) ((rd_T53 l1 x5_1).f1)).bind fun t506 => (if t506 = true then (verditerref06_Same.l0 k1 l0 l1 (wrap64 (x5_1 + 1))) else (some false))) = some r := by rw [if_pos rfl] at H; exact H
                clear H
                have H := H1
                clear H1
                replace H := Option.bind_eq_some_iff.mp H
                obtain ⟨t506, A90, H⟩ := H
                replace H : (if t506 = true then (verditerref06_Same.l0 k1 l0 l1 (wrap64 (x5_1 + 1))) else (some false)) = some r := H
                have A9 := Aside0.mk A90
                clear A90
                by_cases c10 : t506 = true
                · subst c10
                  have H1 : (verditerref06_Same.l0 k1 l0 l1 (wrap64 (x5_1 + 1))) = some r := by rw [if_pos rfl] at H; exact H
                  clear H
                  have H := H1
                  clear H1
                  have H' := Aside0.mk H
                  clear H
                  have p501 : 0 ≤ (x5_1 : Int) := of_decide_eq_true (by first | (with_reducible assumption) | assumption)
                  have q501 : x5_1 < (l0.length : Int) := of_decide_eq_true (by first | (with_reducible assumption) | assumption)
                  obtain ⟨ad501, A501_0, c501_0, A501_1, c501_1, e501, hx501_0, hx501_1, hl501_0, hi501_0, hl501_1, hi501_1⟩ := at_T53 HR0.out x5_1 p501 q501
                  cases e501
                  have HR501_0 := Aside0.mk hi501_0
                  have HC501_0 := Aside0.mk hl501_0
                  clear hi501_0 hl501_0
                  have HR501_1 := Aside0.mk hi501_1
                  have HC501_1 := Aside0.mk hl501_1
                  clear hi501_1 hl501_1
                  replace p501 := eq_true p501
                  replace q501 := eq_true q501
                  have p502 : 0 ≤ (x5_1 : Int) := of_decide_eq_true (by first | (with_reducible assumption) | assumption)
                  have q502 : x5_1 < (l1.length : Int) := of_decide_eq_true (by first | (with_reducible assumption) | assumption)
                  obtain ⟨ad502, A502_0, c502_0, A502_1, c502_1, e502, hx502_0, hx502_1, hl502_0, hi502_0, hl502_1, hi502_1⟩ := at_T53 HR1.out x5_1 p502 q502
                  cases e502
                  have HR502_0 := Aside0.mk hi502_0
                  have HC502_0 := Aside0.mk hl502_0
                  clear hi502_0 hl502_0
                  have HR502_1 := Aside0.mk hi502_1
                  have HC502_1 := Aside0.mk hl502_1
                  clear hi502_1 hl502_1
                  replace p502 := eq_true p502
                  replace q502 := eq_true q502
                  go_wp2_with (first | (go_at_call 60; (with_reducible refine (verditerref06_SameInts.calls k1 _ _ ((rd_T53 l0 x5_1).f0) _ _ ((rd_T53 l1 x5_1).f0) true _ ?side1 ?side2 ?side3 ?side4 A7.out).mono ?_); (case side1 => repeat (first | exact HR501_0.out | (with_reducible refine Kd.C_alloc ?_ _) | (with_reducible refine Kd.C_drewN ?_ _) | (with_reducible refine Kd.C_drew ?_))); (case side2 => exact HC501_0.out); (case side3 => repeat (first | exact HR502_0.out | (with_reducible refine Kd.C_alloc ?_ _) | (with_reducible refine Kd.C_drewN ?_ _) | (with_reducible refine Kd.C_drew ?_))); (case side4 => exact HC502_0.out); rintro e w' ⟨rfl, ⟨nd, rfl⟩⟩; (try first | exact ⟨rfl, _, World.drewN_drewN _ _ _⟩ | exact ⟨rfl, _, Eq.trans (World.drewN_drewN _ _ _) (congrArg (World.drewN _) (Nat.add_assoc _ _ _))⟩); have p504 : 0 ≤ (x5_1 : Int) := of_decide_eq_true (by first | (with_reducible assumption) | assumption); have q504 : x5_1 < (l0.length : Int) := of_decide_eq_true (by first | (with_reducible assumption) | assumption); obtain ⟨ad504, A504_0, c504_0, A504_1, c504_1, e504, hx504_0, hx504_1, hl504_0, hi504_0, hl504_1, hi504_1⟩ := at_T53 HR0.out x5_1 p504 q504; obtain rfl : ad501 = ad504 := (by injection e504); have HR504_0 := Aside0.mk hi504_0; have HC504_0 := Aside0.mk hl504_0; clear hi504_0 hl504_0; have HR504_1 := Aside0.mk hi504_1; have HC504_1 := Aside0.mk hl504_1; clear hi504_1 hl504_1; replace p504 := eq_true p504; replace q504 := eq_true q504; have ea_ := Option.some.inj (hx501_0.symm.trans hx504_0); injection ea_ with ea_ en_ ec_; subst ea_; subst ec_; clear en_; have ea_ := Option.some.inj (hx501_1.symm.trans hx504_1); injection ea_ with ea_ en_ ec_; subst ea_; subst ec_; clear en_; have p505 : 0 ≤ (x5_1 : Int) := of_decide_eq_true (by first | (with_reducible assumption) | assumption); have q505 : x5_1 < (l1.length : Int) := of_decide_eq_true (by first | (with_reducible assumption) | assumption); obtain ⟨ad505, A505_0, c505_0, A505_1, c505_1, e505, hx505_0, hx505_1, hl505_0, hi505_0, hl505_1, hi505_1⟩ := at_T53 HR1.out x5_1 p505 q505; obtain rfl : ad502 = ad505 := (by injection e505); have HR505_0 := Aside0.mk hi505_0; have HC505_0 := Aside0.mk hl505_0; clear hi505_0 hl505_0; have HR505_1 := Aside0.mk hi505_1; have HC505_1 := Aside0.mk hl505_1; clear hi505_1 hl505_1; replace p505 := eq_true p505; replace q505 := eq_true q505; have ea_ := Option.some.inj (hx502_0.symm.trans hx505_0); injection ea_ with ea_ en_ ec_; subst ea_; subst ec_; clear en_; have ea_ := Option.some.inj (hx502_1.symm.trans hx505_1); injection ea_ with ea_ en_ ec_; subst ea_; subst ec_; clear en_) | (go_at_call 60; (with_reducible refine (verditerref06_SameInts.calls k1 _ _ ((rd_T53 l0 x5_1).f1) _ _ ((rd_T53 l1 x5_1).f1) true _ ?side1 ?side2 ?side3 ?side4 A9.out).mono ?_); (case side1 => repeat (first | exact HR504_1.out | (with_reducible refine Kd.C_alloc ?_ _) | (with_reducible refine Kd.C_drewN ?_ _) | (with_reducible refine Kd.C_drew ?_))); (case side2 => exact HC504_1.out); (case side3 => repeat (first | exact HR505_1.out | (with_reducible refine Kd.C_alloc ?_ _) | (with_reducible refine Kd.C_drewN ?_ _) | (with_reducible refine Kd.C_drew ?_))); (case side4 => exact HC505_1.out); rintro e w' ⟨rfl, ⟨nd, rfl⟩⟩; (try first | exact ⟨rfl, _, World.drewN_drewN _ _ _⟩ | exact ⟨rfl, _, Eq.trans (World.drewN_drewN _ _ _) (congrArg (World.drewN _) (Nat.add_assoc _ _ _))⟩)))
                  repeat (go_quiet (first | (go_at_call 60; (with_reducible refine (verditerref06_SameInts.calls k1 _ _ ((rd_T53 l0 x5_1).f0) _ _ ((rd_T53 l1 x5_1).f0) true _ ?side1 ?side2 ?side3 ?side4 A7.out).mono ?_); (case side1 => repeat (first | exact HR501_0.out | (with_reducible refine Kd.C_alloc ?_ _) | (with_reducible refine Kd.C_drewN ?_ _) | (with_reducible refine Kd.C_drew ?_))); (case side2 => exact HC501_0.out); (case side3 => repeat (first | exact HR502_0.out | (with_reducible refine Kd.C_alloc ?_ _) | (with_reducible refine Kd.C_drewN ?_ _) | (with_reducible refine Kd.C_drew ?_))); (case side4 => exact HC502_0.out); rintro e w' ⟨rfl, ⟨nd, rfl⟩⟩; (try first | exact ⟨rfl, _, World.drewN_drewN _ _ _⟩ | exact ⟨rfl, _, Eq.trans (World.drewN_drewN _ _ _) (congrArg (World.drewN _) (Nat.add_assoc _ _ _))⟩); have p504 : 0 ≤ (x5_1 : Int) := of_decide_eq_true (by first | (with_reducible assumption) | assumption); have q504 : x5_1 < (l0.length : Int) := of_decide_eq_true (by first | (with_reducible assumption) | assumption); obtain ⟨ad504, A504_0, c504_0, A504_1, c504_1, e504, hx504_0, hx504_1, hl504_0, hi504_0, hl504_1, hi504_1⟩ := at_T53 HR0.out x5_1 p504 q504; obtain rfl : ad501 = ad504 := (by injection e504); have HR504_0 := Aside0.mk hi504_0; have HC504_0 := Aside0.mk hl504_0; clear hi504_0 hl504_0; have HR504_1 := Aside0.mk hi504_1; have HC504_1 := Aside0.mk hl504_1; clear hi504_1 hl504_1; replace p504 := eq_true p504; replace q504 := eq_true q504; have ea_ := Option.some.inj (hx501_0.symm.trans hx504_0); injection ea_ with ea_ en_ ec_; subst ea_; subst ec_; clear en_; have ea_ := Option.some.inj (hx501_1.symm.trans hx504_1); injection ea_ with ea_ en_ ec_; subst ea_; subst ec_; clear en_; have p505 : 0 ≤ (x5_1 : Int) := of_decide_eq_true (by first | (with_reducible assumption) | assumption); have q505 : x5_1 < (l1.length : Int) := of_decide_eq_true (by first | (with_reducible assumption) | assumption); obtain ⟨ad505, A505_0, c505_0, A505_1, c505_1, e505, hx505_0, hx505_1, hl505_0, hi505_0, hl505_1, hi505_1⟩ := at_T53 HR1.out x5_1 p505 q505; obtain rfl : ad502 = ad505 := (by injection e505); have HR505_0 := Aside0.mk hi505_0; have HC505_0 := Aside0.mk hl505_0; clear hi505_0 hl505_0; have HR505_1 := Aside0.mk hi505_1; have HC505_1 := Aside0.mk hl505_1; clear hi505_1 hl505_1; replace p505 := eq_true p505; replace q505 := eq_true q505; have ea_ := Option.some.inj (hx502_0.symm.trans hx505_0); injection ea_ with ea_ en_ ec_; subst ea_; subst ec_; clear en_; have ea_ := Option.some.inj (hx502_1.symm.trans hx505_1); injection ea_ with ea_ en_ ec_; subst ea_; subst ec_; clear en_) | (go_at_call 60; (with_reducible refine (verditerref06_SameInts.calls k1 _ _ ((rd_T53 l0 x5_1).f1) _ _ ((rd_T53 l1 x5_1).f1) true _ ?side1 ?side2 ?side3 ?side4 A9.out).mono ?_); (case side1 => repeat (first | exact HR504_1.out | (with_reducible refine Kd.C_alloc ?_ _) | (with_reducible refine Kd.C_drewN ?_ _) | (with_reducible refine Kd.C_drew ?_))); (case side2 => exact HC504_1.out); (case side3 => repeat (first | exact HR505_1.out | (with_reducible refine Kd.C_alloc ?_ _) | (with_reducible refine Kd.C_drewN ?_ _) | (with_reducible refine Kd.C_drew ?_))); (case side4 => exact HC505_1.out); rintro e w' ⟨rfl, ⟨nd, rfl⟩⟩; (try first | exact ⟨rfl, _, World.drewN_drewN _ _ _⟩ | exact ⟨rfl, _, Eq.trans (World.drewN_drewN _ _ _) (congrArg (World.drewN _) (Nat.add_assoc _ _ _))⟩))); try go_wp2_with (first | (go_at_call 60; (with_reducible refine (verditerref06_SameInts.calls k1 _ _ ((rd_T53 l0 x5_1).f0) _ _ ((rd_T53 l1 x5_1).f0) true _ ?side1 ?side2 ?side3 ?side4 A7.out).mono ?_); (case side1 => repeat (first | exact HR501_0.out | (with_reducible refine Kd.C_alloc ?_ _) | (with_reducible refine Kd.C_drewN ?_ _) | (with_reducible refine Kd.C_drew ?_))); (case side2 => exact HC501_0.out); (case side3 => repeat (first | exact HR502_0.out | (with_reducible refine Kd.C_alloc ?_ _) | (with_reducible refine Kd.C_drewN ?_ _) | (with_reducible refine Kd.C_drew ?_))); (case side4 => exact HC502_0.out); rintro e w' ⟨rfl, ⟨nd, rfl⟩⟩; (try first | exact ⟨rfl, _, World.drewN_drewN _ _ _⟩ | exact ⟨rfl, _, Eq.trans (World.drewN_drewN _ _ _) (congrArg (World.drewN _) (Nat.add_assoc _ _ _))⟩); have p504 : 0 ≤ (x5_1 : Int) := of_decide_eq_true (by first | (with_reducible assumption) | assumption); have q504 : x5_1 < (l0.length : Int) := of_decide_eq_true (by first | (with_reducible assumption) | assumption); obtain ⟨ad504, A504_0, c504_0, A504_1, c504_1, e504, hx504_0, hx504_1, hl504_0, hi504_0, hl504_1, hi504_1⟩ := at_T53 HR0.out x5_1 p504 q504; obtain rfl : ad501 = ad504 := (by injection e504); have HR504_0 := Aside0.mk hi504_0; have HC504_0 := Aside0.mk hl504_0; clear hi504_0 hl504_0; have HR504_1 := Aside0.mk hi504_1; have HC504_1 := Aside0.mk hl504_1; clear hi504_1 hl504_1; replace p504 := eq_true p504; replace q504 := eq_true q504; have ea_ := Option.some.inj (hx501_0.symm.trans hx504_0); injection ea_ with ea_ en_ ec_; subst ea_; subst ec_; clear en_; have ea_ := Option.some.inj (hx501_1.symm.trans hx504_1); injection ea_ with ea_ en_ ec_; subst ea_; subst ec_; clear en_; have p505 : 0 ≤ (x5_1 : Int) := of_decide_eq_true (by first | (with_reducible assumption) | assumption); have q505 : x5_1 < (l1.length : Int) := of_decide_eq_true (by first | (with_reducible assumption) | assumption); obtain ⟨ad505, A505_0, c505_0, A505_1, c505_1, e505, hx505_0, hx505_1, hl505_0, hi505_0, hl505_1, hi505_1⟩ := at_T53 HR1.out x5_1 p505 q505; obtain rfl : ad502 = ad505 := (by injection e505); have HR505_0 := Aside0.mk hi505_0; have HC505_0 := Aside0.mk hl505_0; clear hi505_0 hl505_0; have HR505_1 := Aside0.mk hi505_1; have HC505_1 := Aside0.mk hl505_1; clear hi505_1 hl505_1; replace p505 := eq_true p505; replace q505 := eq_true q505; have ea_ := Option.some.inj (hx502_0.symm.trans hx505_0); injection ea_ with ea_ en_ ec_; subst ea_; subst ec_; clear en_; have ea_ := Option.some.inj (hx502_1.symm.trans hx505_1); injection ea_ with ea_ en_ ec_; subst ea_; subst ec_; clear en_) | (go_at_call 60; (with_reducible refine (verditerref06_SameInts.calls k1 _ _ ((rd_T53 l0 x5_1).f1) _ _ ((rd_T53 l1 x5_1).f1) true _ ?side1 ?side2 ?side3 ?side4 A9.out).mono ?_); (case side1 => repeat (first | exact HR504_1.out | (with_reducible refine Kd.C_alloc ?_ _) | (with_reducible refine Kd.C_drewN ?_ _) | (with_reducible refine Kd.C_drew ?_))); (case side2 => exact HC504_1.out); (case side3 => repeat (first | exact HR505_1.out | (with_reducible refine Kd.C_alloc ?_ _) | (with_reducible refine Kd.C_drewN ?_ _) | (with_reducible refine Kd.C_drew ?_))); (case side4 => exact HC505_1.out); rintro e w' ⟨rfl, ⟨nd, rfl⟩⟩; (try first | exact ⟨rfl, _, World.drewN_drewN _ _ _⟩ | exact ⟨rfl, _, Eq.trans (World.drewN_drewN _ _ _) (congrArg (World.drewN _) (Nat.add_assoc _ _ _))⟩))))
                  go_roundg k1
                  case measure => have := HK1.out; omega
                  case rel => exact ⟨(wrap64 (x5_1 + 1)), (by first | rfl | (simp; done) | (simp [*]; done)), H', ⟨by have := HK1.out; omega⟩, by repeat (first | exact Drawn0.refl _ | apply Drawn0.step)⟩
                · replace c10 := Bool.eq_false_iff.mpr c10
                  subst c10
                  have H1 : (some false) = some r := by rw [if_neg (show ¬ (false = true) by decide)] at H; exact H
                  clear H
                  have H := H1
                  clear H1
                  obtain rfl := Option.some.inj H
                  have p501 : 0 ≤ (x5_1 : Int) := of_decide_eq_true (by first | (with_reducible assumption) | assumption)
                  have q501 : x5_1 < (l0.length : Int) := of_decide_eq_true (by first | (with_reducible assumption) | assumption)
                  obtain ⟨ad501, A501_0, c501_0, A501_1, c501_1, e501, hx501_0, hx501_1, hl501_0, hi501_0, hl501_1, hi501_1⟩ := at_T53 HR0.out x5_1 p501 q501
                  cases e501
                  have HR501_0 := Aside0.mk hi501_0
                  have HC501_0 := Aside0.mk hl501_0
                  clear hi501_0 hl501_0
                  have HR501_1 := Aside0.mk hi501_1
                  have HC501_1 := Aside0.mk hl501_1
                  clear hi501_1 hl501_1
                  replace p501 := eq_true p501
                  replace q501 := eq_true q501
                  have p502 : 0 ≤ (x5_1 : Int) := of_decide_eq_true (by first | (with_reducible assumption) | assumption)
                  have q502 : x5_1 < (l1.length : Int) := of_decide_eq_true (by first | (with_reducible assumption) | assumption)
                  obtain ⟨ad502, A502_0, c502_0, A502_1, c502_1, e502, hx502_0, hx502_1, hl502_0, hi502_0, hl502_1, hi502_1⟩ := at_T53 HR1.out x5_1 p502 q502
                  cases e502
                  have HR502_0 := Aside0.mk hi502_0
                  have HC502_0 := Aside0.mk hl502_0
                  clear hi502_0 hl502_0
                  have HR502_1 := Aside0.mk hi502_1
                  have HC502_1 := Aside0.mk hl502_1
                  clear hi502_1 hl502_1
                  replace p502 := eq_true p502
                  replace q502 := eq_true q502
                  go_wp2_with (first | (go_at_call 60; (with_reducible refine (verditerref06_SameInts.calls k1 _ _ ((rd_T53 l0 x5_1).f0) _ _ ((rd_T53 l1 x5_1).f0) true _ ?side1 ?side2 ?side3 ?side4 A7.out).mono ?_); (case side1 => repeat (first | exact HR501_0.out | (with_reducible refine Kd.C_alloc ?_ _) | (with_reducible refine Kd.C_drewN ?_ _) | (with_reducible refine Kd.C_drew ?_))); (case side2 => exact HC501_0.out); (case side3 => repeat (first | exact HR502_0.out | (with_reducible refine Kd.C_alloc ?_ _) | (with_reducible refine Kd.C_drewN ?_ _) | (with_reducible refine Kd.C_drew ?_))); (case side4 => exact HC502_0.out); rintro e w' ⟨rfl, ⟨nd, rfl⟩⟩; (try first | exact ⟨rfl, _, World.drewN_drewN _ _ _⟩ | exact ⟨rfl, _, Eq.trans (World.drewN_drewN _ _ _) (congrArg (World.drewN _) (Nat.add_assoc _ _ _))⟩); have p504 : 0 ≤ (x5_1 : Int) := of_decide_eq_true (by first | (with_reducible assumption) | assumption); have q504 : x5_1 < (l0.length : Int) := of_decide_eq_true (by first | (with_reducible assumption) | assumption); obtain ⟨ad504, A504_0, c504_0, A504_1, c504_1, e504, hx504_0, hx504_1, hl504_0, hi504_0, hl504_1, hi504_1⟩ := at_T53 HR0.out x5_1 p504 q504; obtain rfl : ad501 = ad504 := (by injection e504); have HR504_0 := Aside0.mk hi504_0; have HC504_0 := Aside0.mk hl504_0; clear hi504_0 hl504_0; have HR504_1 := Aside0.mk hi504_1; have HC504_1 := Aside0.mk hl504_1; clear hi504_1 hl504_1; replace p504 := eq_true p504; replace q504 := eq_true q504; have ea_ := Option.some.inj (hx501_0.symm.trans hx504_0); injection ea_ with ea_ en_ ec_; subst ea_; subst ec_; clear en_; have ea_ := Option.some.inj (hx501_1.symm.trans hx504_1); injection ea_ with ea_ en_ ec_; subst ea_; subst ec_; clear en_; have p505 : 0 ≤ (x5_1 : Int) := of_decide_eq_true (by first | (with_reducible assumption) | assumption); have q505 : x5_1 < (l1.length : Int) := of_decide_eq_true (by first | (with_reducible assumption) | assumption); obtain ⟨ad505, A505_0, c505_0, A505_1, c505_1, e505, hx505_0, hx505_1, hl505_0, hi505_0, hl505_1, hi505_1⟩ := at_T53 HR1.out x5_1 p505 q505; obtain rfl : ad502 = ad505 := (by injection e505); have HR505_0 := Aside0.mk hi505_0; have HC505_0 := Aside0.mk hl505_0; clear hi505_0 hl505_0; have HR505_1 := Aside0.mk hi505_1; have HC505_1 := Aside0.mk hl505_1; clear hi505_1 hl505_1; replace p505 := eq_true p505; replace q505 := eq_true q505; have ea_ := Option.some.inj (hx502_0.symm.trans hx505_0); injection ea_ with ea_ en_ ec_; subst ea_; subst ec_; clear en_; have ea_ := Option.some.inj (hx502_1.symm.trans hx505_1); injection ea_ with ea_ en_ ec_; subst ea_; subst ec_; clear en_) | (go_at_call 60; (with_reducible refine (verditerref06_SameInts.calls k1 _ _ ((rd_T53 l0 x5_1).f1) _ _ ((rd_T53 l1 x5_1).f1) false _ ?side1 ?side2 ?side3 ?side4 A9.out).mono ?_); (case side1 => repeat (first | exact HR504_1.out | (with_reducible refine Kd.C_alloc ?_ _) | (with_reducible refine Kd.C_drewN ?_ _) | (with_reducible refine Kd.C_drew ?_))); (case side2 => exact HC504_1.out); (case side3 => repeat (first | exact HR505_1.out | (with_reducible refine Kd.C_alloc ?_ _) | (with_reducible refine Kd.C_drewN ?_ _) | (with_reducible refine Kd.C_drew ?_))); (case side4 => exact HC505_1.out); rintro e w' ⟨rfl, ⟨nd, rfl⟩⟩; (try first | exact ⟨rfl, _, World.drewN_drewN _ _ _⟩ | exact ⟨rfl, _, Eq.trans (World.drewN_drewN _ _ _) (congrArg (World.drewN _) (Nat.add_assoc _ _ _))⟩)))
                  repeat (go_quiet (first | (go_at_call 60; (with_reducible refine (verditerref06_SameInts.calls k1 _ _ ((rd_T53 l0 x5_1).f0) _ _ ((rd_T53 l1 x5_1).f0) true _ ?side1 ?side2 ?side3 ?side4 A7.out).mono ?_); (case side1 => repeat (first | exact HR501_0.out | (with_reducible refine Kd.C_alloc ?_ _) | (with_reducible refine Kd.C_drewN ?_ _) | (with_reducible refine Kd.C_drew ?_))); (case side2 => exact HC501_0.out); (case side3 => repeat (first | exact HR502_0.out | (with_reducible refine Kd.C_alloc ?_ _) | (with_reducible refine Kd.C_drewN ?_ _) | (with_reducible refine Kd.C_drew ?_))); (case side4 => exact HC502_0.out); rintro e w' ⟨rfl, ⟨nd, rfl⟩⟩; (try first | exact ⟨rfl, _, World.drewN_drewN _ _ _⟩ | exact ⟨rfl, _, Eq.trans (World.drewN_drewN _ _ _) (congrArg (World.drewN _) (Nat.add_assoc _ _ _))⟩); have p504 : 0 ≤ (x5_1 : Int) := of_decide_eq_true (by first | (with_reducible assumption) | assumption); have q504 : x5_1 < (l0.length : Int) := of_decide_eq_true (by first | (with_reducible assumption) | assumption); obtain ⟨ad504, A504_0, c504_0, A504_1, c504_1, e504, hx504_0, hx504_1, hl504_0, hi504_0, hl504_1, hi504_1⟩ := at_T53 HR0.out x5_1 p504 q504; obtain rfl : ad501 = ad504 := (by injection e504); have HR504_0 := Aside0.mk hi504_0; have HC504_0 := Aside0.mk hl504_0; clear hi504_0 hl504_0; have HR504_1 := Aside0.mk hi504_1; have HC504_1 := Aside0.mk hl504_1; clear hi504_1 hl504_1; replace p504 := eq_true p504; replace q504 := eq_true q504; have ea_ := Option.some.inj (hx501_0.symm.trans hx504_0); injection ea_ with ea_ en_ ec_; subst ea_; subst ec_; clear en_; have ea_ := Option.some.inj (hx501_1.symm.trans hx504_1); injection ea_ with ea_ en_ ec_; subst ea_; subst ec_; clear en_; have p505 : 0 ≤ (x5_1 : Int) := of_decide_eq_true (by first | (with_reducible assumption) | assumption); have q505 : x5_1 < (l1.length : Int) := of_decide_eq_true (by first | (with_reducible assumption) | assumption); obtain ⟨ad505, A505_0, c505_0, A505_1, c505_1, e505, hx505_0, hx505_1, hl505_0, hi505_0, hl505_1, hi505_1⟩ := at_T53 HR1.out x5_1 p505 q505; obtain rfl : ad502 = ad505 := (by injection e505); have HR505_0 := Aside0.mk hi505_0; have HC505_0 := Aside0.mk hl505_0; clear hi505_0 hl505_0; have HR505_1 := Aside0.mk hi505_1; have HC505_1 := Aside0.mk hl505_1; clear hi505_1 hl505_1; replace p505 := eq_true p505; replace q505 := eq_true q505; have ea_ := Option.some.inj (hx502_0.symm.trans hx505_0); injection ea_ with ea_ en_ ec_; subst ea_; subst ec_; clear en_; have ea_ := Option.some.inj (hx502_1.symm.trans hx505_1); injection ea_ with ea_ en_ ec_; subst ea_; subst ec_; clear en_) | (go_at_call 60; (with_reducible refine (verditerref06_SameInts.calls k1 _ _ ((rd_T53 l0 x5_1).f1) _ _ ((rd_T53 l1 x5_1).f1) false _ ?side1 ?side2 ?side3 ?side4 A9.out).mono ?_); (case side1 => repeat (first | exact HR504_1.out | (with_reducible refine Kd.C_alloc ?_ _) | (with_reducible refine Kd.C_drewN ?_ _) | (with_reducible refine Kd.C_drew ?_))); (case side2 => exact HC504_1.out); (case side3 => repeat (first | exact HR505_1.out | (with_reducible refine Kd.C_alloc ?_ _) | (with_reducible refine Kd.C_drewN ?_ _) | (with_reducible refine Kd.C_drew ?_))); (case side4 => exact HC505_1.out); rintro e w' ⟨rfl, ⟨nd, rfl⟩⟩; (try first | exact ⟨rfl, _, World.drewN_drewN _ _ _⟩ | exact ⟨rfl, _, Eq.trans (World.drewN_drewN _ _ _) (congrArg (World.drewN _) (Nat.add_assoc _ _ _))⟩))); try go_wp2_with (first | (go_at_call 60; (with_reducible refine (verditerref06_SameInts.calls k1 _ _ ((rd_T53 l0 x5_1).f0) _ _ ((rd_T53 l1 x5_1).f0) true _ ?side1 ?side2 ?side3 ?side4 A7.out).mono ?_); (case side1 => repeat (first | exact HR501_0.out | (with_reducible refine Kd.C_alloc ?_ _) | (with_reducible refine Kd.C_drewN ?_ _) | (with_reducible refine Kd.C_drew ?_))); (case side2 => exact HC501_0.out); (case side3 => repeat (first | exact HR502_0.out | (with_reducible refine Kd.C_alloc ?_ _) | (with_reducible refine Kd.C_drewN ?_ _) | (with_reducible refine Kd.C_drew ?_))); (case side4 => exact HC502_0.out); rintro e w' ⟨rfl, ⟨nd, rfl⟩⟩; (try first | exact ⟨rfl, _, World.drewN_drewN _ _ _⟩ | exact ⟨rfl, _, Eq.trans (World.drewN_drewN _ _ _) (congrArg (World.drewN _) (Nat.add_assoc _ _ _))⟩); have p504 : 0 ≤ (x5_1 : Int) := of_decide_eq_true (by first | (with_reducible assumption) | assumption); have q504 : x5_1 < (l0.length : Int) := of_decide_eq_true (by first | (with_reducible assumption) | assumption); obtain ⟨ad504, A504_0, c504_0, A504_1, c504_1, e504, hx504_0, hx504_1, hl504_0, hi504_0, hl504_1, hi504_1⟩ := at_T53 HR0.out x5_1 p504 q504; obtain rfl : ad501 = ad504 := (by injection e504); have HR504_0 := Aside0.mk hi504_0; have HC504_0 := Aside0.mk hl504_0; clear hi504_0 hl504_0; have HR504_1 := Aside0.mk hi504_1; have HC504_1 := Aside0.mk hl504_1; clear hi504_1 hl504_1; replace p504 := eq_true p504; replace q504 := eq_true q504; have ea_ := Option.some.inj (hx501_0.symm.trans hx504_0); injection ea_ with ea_ en_ ec_; subst ea_; subst ec_; clear en_; have ea_ := Option.some.inj (hx501_1.symm.trans hx504_1); injection ea_ with ea_ en_ ec_; subst ea_; subst ec_; clear en_; have p505 : 0 ≤ (x5_1 : Int) := of_decide_eq_true (by first | (with_reducible assumption) | assumption); have q505 : x5_1 < (l1.length : Int) := of_decide_eq_true (by first | (with_reducible assumption) | assumption); obtain ⟨ad505, A505_0, c505_0, A505_1, c505_1, e505, hx505_0, hx505_1, hl505_0, hi505_0, hl505_1, hi505_1⟩ := at_T53 HR1.out x5_1 p505 q505; obtain rfl : ad502 = ad505 := (by injection e505); have HR505_0 := Aside0.mk hi505_0; have HC505_0 := Aside0.mk hl505_0; clear hi505_0 hl505_0; have HR505_1 := Aside0.mk hi505_1; have HC505_1 := Aside0.mk hl505_1; clear hi505_1 hl505_1; replace p505 := eq_true p505; replace q505 := eq_true q505; have ea_ := Option.some.inj (hx502_0.symm.trans hx505_0); injection ea_ with ea_ en_ ec_; subst ea_; subst ec_; clear en_; have ea_ := Option.some.inj (hx502_1.symm.trans hx505_1); injection ea_ with ea_ en_ ec_; subst ea_; subst ec_; clear en_) | (go_at_call 60; (with_reducible refine (verditerref06_SameInts.calls k1 _ _ ((rd_T53 l0 x5_1).f1) _ _ ((rd_T53 l1 x5_1).f1) false _ ?side1 ?side2 ?side3 ?side4 A9.out).mono ?_); (case side1 => repeat (first | exact HR504_1.out | (with_reducible refine Kd.C_alloc ?_ _) | (with_reducible refine Kd.C_drewN ?_ _) | (with_reducible refine Kd.C_drew ?_))); (case side2 => exact HC504_1.out); (case side3 => repeat (first | exact HR505_1.out | (with_reducible refine Kd.C_alloc ?_ _) | (with_reducible refine Kd.C_drewN ?_ _) | (with_reducible refine Kd.C_drew ?_))); (case side4 => exact HC505_1.out); rintro e w' ⟨rfl, ⟨nd, rfl⟩⟩; (try first | exact ⟨rfl, _, World.drewN_drewN _ _ _⟩ | exact ⟨rfl, _, Eq.trans (World.drewN_drewN _ _ _) (congrArg (World.drewN _) (Nat.add_assoc _ _ _))⟩))))
                  go_ret
                  exact ⟨by first | rfl | (simp; done) | (simp [*]; done), by repeat (first | exact Drawn0.refl _ | apply Drawn0.step)⟩
              · replace c8 := Bool.eq_false_iff.mpr c8
                subst c8
                have H1 : (some false) = some r := by rw [if_neg (show ¬ (false = true) by decide)] at H; exact H
                clear H
                have H := H1
                clear H1
                obtain rfl := Option.some.inj H
                have p501 : 0 ≤ (x5_1 : Int) := of_decide_eq_true (by first | (with_reducible assumption) | assumption)
                have q501 : x5_1 < (l0.length : Int) := of_decide_eq_true (by first | (with_reducible assumption) | assumption)
                obtain ⟨ad501, A501_0, c501_0, A501_1, c501_1, e501, hx501_0, hx501_1, hl501_0, hi501_0, hl501_1, hi501_1⟩ := at_T53 HR0.out x5_1 p501 q501
                cases e501
                have HR501_0 := Aside0.mk hi501_0
                have HC501_0 := Aside0.mk hl501_0
                clear hi501_0 hl501_0
                have HR501_1 := Aside0.mk hi501_1
                have HC501_1 := Aside0.mk hl501_1
                clear hi501_1 hl501_1
                replace p501 := eq_true p501
                replace q501 := eq_true q501
                have p502 : 0 ≤ (x5_1 : Int) := of_decide_eq_true (by first | (with_reducible assumption) | assumption)
                have q502 : x5_1 < (l1.length : Int) := of_decide_eq_true (by first | (with_reducible assumption) | assumption)
                obtain ⟨ad502, A502_0, c502_0, A502_1, c502_1, e502, hx502_0, hx502_1, hl502_0, hi502_0, hl502_1, hi502_1⟩ := at_T53 HR1.out x5_1 p502 q502
                cases e502
                have HR502_0 := Aside0.mk hi502_0
                have HC502_0 := Aside0.mk hl502_0
                clear hi502_0 hl502_0
                have HR502_1 := Aside0.mk hi502_1
                have HC502_1 := Aside0.mk hl502_1
                clear hi502_1 hl502_1
                replace p502 := eq_true p502
                replace q502 := eq_true q502
                go_wp2_with (first | (go_at_call 60; (with_reducible refine (verditerref06_SameInts.calls k1 _ _ ((rd_T53 l0 x5_1).f0) _ _ ((rd_T53 l1 x5_1).f0) false _ ?side1 ?side2 ?side3 ?side4 A7.out).mono ?_); (case side1 => repeat (first | exact HR501_0.out | (with_reducible refine Kd.C_alloc ?_ _) | (with_reducible refine Kd.C_drewN ?_ _) | (with_reducible refine Kd.C_drew ?_))); (case side2 => exact HC501_0.out); (case side3 => repeat (first | exact HR502_0.out | (with_reducible refine Kd.C_alloc ?_ _) | (with_reducible refine Kd.C_drewN ?_ _) | (with_reducible refine Kd.C_drew ?_))); (case side4 => exact HC502_0.out); rintro e w' ⟨rfl, ⟨nd, rfl⟩⟩; (try first | exact ⟨rfl, _, World.drewN_drewN _ _ _⟩ | exact ⟨rfl, _, Eq.trans (World.drewN_drewN _ _ _) (congrArg (World.drewN _) (Nat.add_assoc _ _ _))⟩)))
                repeat (go_quiet (first | (go_at_call 60; (with_reducible refine (verditerref06_SameInts.calls k1 _ _ ((rd_T53 l0 x5_1).f0) _ _ ((rd_T53 l1 x5_1).f0) false _ ?side1 ?side2 ?side3 ?side4 A7.out).mono ?_); (case side1 => repeat (first | exact HR501_0.out | (with_reducible refine Kd.C_alloc ?_ _) | (with_reducible refine Kd.C_drewN ?_ _) | (with_reducible refine Kd.C_drew ?_))); (case side2 => exact HC501_0.out); (case side3 => repeat (first | exact HR502_0.out | (with_reducible refine Kd.C_alloc ?_ _) | (with_reducible refine Kd.C_drewN ?_ _) | (with_reducible refine Kd.C_drew ?_))); (case side4 => exact HC502_0.out); rintro e w' ⟨rfl, ⟨nd, rfl⟩⟩; (try first | exact ⟨rfl, _, World.drewN_drewN _ _ _⟩ | exact ⟨rfl, _, Eq.trans (World.drewN_drewN _ _ _) (congrArg (World.drewN _) (Nat.add_assoc _ _ _))⟩))); try go_wp2_with (first | (go_at_call 60; (with_reducible refine (verditerref06_SameInts.calls k1 _ _ ((rd_T53 l0 x5_1).f0) _ _ ((rd_T53 l1 x5_1).f0) false _ ?side1 ?side2 ?side3 ?side4 A7.out).mono ?_); (case side1 => repeat (first | exact HR501_0.out | (with_reducible refine Kd.C_alloc ?_ _) | (with_reducible refine Kd.C_drewN ?_ _) | (with_reducible refine Kd.C_drew ?_))); (case side2 => exact HC501_0.out); (case side3 => repeat (first | exact HR502_0.out | (with_reducible refine Kd.C_alloc ?_ _) | (with_reducible refine Kd.C_drewN ?_ _) | (with_reducible refine Kd.C_drew ?_))); (case side4 => exact HC502_0.out); rintro e w' ⟨rfl, ⟨nd, rfl⟩⟩; (try first | exact ⟨rfl, _, World.drewN_drewN _ _ _⟩ | exact ⟨rfl, _, Eq.trans (World.drewN_drewN _ _ _) (congrArg (World.drewN _) (Nat.add_assoc _ _ _))⟩))))
                go_ret
                exact ⟨by first | rfl | (simp; done) | (simp [*]; done), by repeat (first | exact Drawn0.refl _ | apply Drawn0.step)⟩
            · rw [if_neg c6] at H
              exact absurd H (by simp)
          · rw [if_neg c5] at H
            exact absurd H (by simp)
        · rw [if_neg c4] at H
          have c4b0 : decide (x5_1 < (l0.length : Int)) = false := decide_eq_false c4
          clear c4
          obtain rfl := Option.some.inj H
          go_wp2
          repeat (go_quiet (fail); try go_wp2)
          go_ret
          exact ⟨by first | rfl | (simp; done) | (simp [*]; done), by repeat (first | exact Drawn0.refl _ | apply Drawn0.step)⟩
  · rw [if_neg c3] at H
    have c3b0 : ((l0.length : Int) == (l1.length : Int)) = false := beq_eq_false_iff_ne.mpr c3
    have c3b1 : ((l0.length : Int) != (l1.length : Int)) = true := bne_iff_ne.mpr c3
    have c3b2 : (l0.length == l1.length) = false := by first | simpa using c3 | (simp at c3 ⊢; omega)
    obtain rfl := Option.some.inj H
    go_enter Try.func68, Try.ntmps68
    go_wp2
    repeat (go_quiet (fail); try go_wp2)
    go_ret
    exact ⟨by first | rfl | (simp; done) | (simp [*]; done), by repeat (first | exact Drawn0.refl _ | apply Drawn0.step)⟩

end Go.Proofs.Ytdbeochifofdoaa.X
end

section
/-! weigh.Make. -/
namespace Go.Proofs.Ytdbeochifofdoaa.X
open Go.RowKit Go.Proofs.YtdbeochifofdoaaW.PrintWords Go.Proofs.YtdbeochifofdoaaW.PrintLast Go.Proofs.YtdbeochifofdoaaW.PrintMore
set_option linter.unusedVariables false
set_option linter.unusedSimpArgs false

/-- The numbers, from n on, of the marks that have s at k. -/
def sideOf (k : Nat) (s : Int) : Nat → List S70 → List Int
  | _, [] => []
  | n, m :: q => if getk m k = s then (n : Int) :: sideOf k s (n + 1) q else sideOf k s (n + 1) q
theorem sideOf_len (k : Nat) (s : Int) : ∀ (l : List S70) (n : Nat), (sideOf k s n l).length ≤ l.length
  | [], _ => Nat.le_refl _
  | m :: q, n => by
    have := sideOf_len k s q (n + 1)
    unfold sideOf
    split
    · simp only [List.length_cons]; omega
    · simp only [List.length_cons]; omega
def pairOf (l : List S70) (k : Nat) : S53 := ⟨sideOf k 1 0 l, sideOf k (-1) 0 l⟩
def weigh_Make.f (a0 a1 : Int) : Option (List S53 × Bool × Int) :=
  if (1 ≤ a0 ∧ a0 ≤ 13) ∧ 0 ≤ a1 ∧ a1 ≤ 3 then
    (if (searchR a0 a1.toNat).2 = true then some ((List.range a1.toNat).map (pairOf (searchR a0 a1.toNat).1), true, 0) else some ([], false, 0))
  else some ([], false, 1)
theorem chosenL_le : ∀ (l : List S70) (c : List Int), (chosenL l c).length ≤ l.length
  | [], _ => by simp [chosenL]
  | m :: ms, [] => by simp [chosenL]
  | m :: ms, x :: xs => by
    have := chosenL_le ms xs
    unfold chosenL
    split
    · simp only [List.length_cons]; omega
    · split <;> simp only [List.length_cons] <;> omega
theorem searchR_len (a0 : Int) (w : Nat) (h : w ≤ 3) : (searchR a0 w).1.length ≤ 13 := by
  unfold searchR
  split
  · exact Nat.le_trans (chosenL_le _ _) (classC_len w h)
  · simp

theorem counted_yes {a b : Int} (h : (1 ≤ a ∧ a ≤ 13) ∧ 0 ≤ b ∧ b ≤ 3) : weigh_counted.f a b = some 0 := by
  unfold weigh_counted.f
  simp [within_f, h]
theorem counted_no {a b : Int} (h : ¬ ((1 ≤ a ∧ a ≤ 13) ∧ 0 ≤ b ∧ b ≤ 3)) : weigh_counted.f a b = some 1 := by
  unfold weigh_counted.f
  simp only [within_f, Option.bind_some, Bool.and_eq_true, decide_eq_true_eq]
  by_cases h1 : 1 ≤ a ∧ a ≤ 13
  · rw [if_pos h1, if_neg (fun h2 => h ⟨h1, h2⟩)]
  · rw [if_neg h1]

/-- The two sides that are being written, in their variable g. -/
def MkS (wo : World) (g : Nat) (W : World) (vL vR : Value) (xs ys : List Int) : Prop :=
  W.heap[g]? = some (.cells #[vL, vR] 53 (0, 0)) ∧ Kd.R (Kd.int .i64) 3 W wo.heap.size (fun q => q ≠ g ∧ some q ≠ vR.ownBlock) vL xs ∧
    Kd.R (Kd.int .i64) 3 W wo.heap.size (fun q => q ≠ g ∧ some q ≠ vL.ownBlock) vR ys ∧ Below wo.heap.size wo W ∧ g < W.heap.size ∧ wo.heap.size ≤ g
theorem MkS.left {wo : World} {g : Nat} {W w3 : World} {vL vR v1 : Value} {xs ys zs : List Int} (h : MkS wo g W vL vR xs ys)
    (hR : Kd.R (Kd.int .i64) 3 w3 wo.heap.size (fun q => q ≠ g ∧ some q ≠ vR.ownBlock) v1 zs) (hB : Below wo.heap.size wo w3) (hG : W.grownBy w3 vL.ownBlock)
    (hat : v1.ownBlock = vL.ownBlock ∨ ∃ b, v1.ownBlock = some b ∧ W.heap.size ≤ b) : MkS wo g (w3.setCell ⟨g, 0, none⟩ v1) v1 vR zs ys := by
  obtain ⟨h1, h2, h3, h4, h5, h6⟩ := h
  have hX := blk_grown h1 hG (Kd.R_away h2 (fun q hq => hq.1))
  have hX1 := blk_set hX 0 v1
  refine ⟨hX1, Kd.R_far hR (fun q hq => hq.1) v1, ?_, hB.setCell h6 v1, by simpa using blk_lt hX, h6⟩
  refine Kd.R_far ?_ (fun q hq => hq.1) v1
  refine Kd.R_mono (Kd.R_grown (Kd.R_bound h3) hG (fun k hk => hk.1.2)) (fun k hk => ⟨hk.1.1, fun he => ?_⟩)
  rcases hat with e | ⟨b, e, hb⟩
  · exact hk.1.2 (he.trans e)
  · rw [e] at he
    have := hk.2.2.1
    injection he with he
    omega
theorem MkS.right {wo : World} {g : Nat} {W w3 : World} {vL vR v1 : Value} {xs ys zs : List Int} (h : MkS wo g W vL vR xs ys)
    (hR : Kd.R (Kd.int .i64) 3 w3 wo.heap.size (fun q => q ≠ g ∧ some q ≠ vL.ownBlock) v1 zs) (hB : Below wo.heap.size wo w3) (hG : W.grownBy w3 vR.ownBlock)
    (hat : v1.ownBlock = vR.ownBlock ∨ ∃ b, v1.ownBlock = some b ∧ W.heap.size ≤ b) : MkS wo g (w3.setCell ⟨g, 1, none⟩ v1) vL v1 xs zs := by
  obtain ⟨h1, h2, h3, h4, h5, h6⟩ := h
  have hX := blk_grown h1 hG (Kd.R_away h3 (fun q hq => hq.1))
  have hX1 := blk_set hX 1 v1
  refine ⟨hX1, ?_, Kd.R_far hR (fun q hq => hq.1) v1, hB.setCell h6 v1, by simpa using blk_lt hX, h6⟩
  refine Kd.R_far ?_ (fun q hq => hq.1) v1
  refine Kd.R_mono (Kd.R_grown (Kd.R_bound h2) hG (fun k hk => hk.1.2)) (fun k hk => ⟨hk.1.1, fun he => ?_⟩)
  rcases hat with e | ⟨b, e, hb⟩
  · exact hk.1.2 (he.trans e)
  · rw [e] at he
    have := hk.2.2.1
    injection he with he
    omega
theorem MkS.alloc {wo : World} {g : Nat} {W : World} {vL vR : Value} {xs ys : List Int} (h : MkS wo g W vL vR xs ys) (o : Obj) : MkS wo g (W.alloc o) vL vR xs ys := by
  obtain ⟨h1, h2, h3, h4, h5, h6⟩ := h
  exact ⟨blk_alloc h1 _, Kd.R_alloc h2 _, Kd.R_alloc h3 _, h4.alloc h4.size _, by simp; omega, h6⟩

set_option maxHeartbeats 8000000 in
set_option maxRecDepth 100000 in
theorem weigh_Make.calls (a0 a1 : Int) (r1 : List S53) (r2 : Bool) (r3 : Int) (w : World) (h : weigh_Make.f a0 a1 = some (r1, r2, r3)) :
    Calls Try.prog 31 #[.int .i64 a0, .int .i64 a1] w fun e w' => ∃ v0_ : Value, e = .returned (.tuple #[v0_, .bool r2, .int .i64 r3]) ∧ Kd.N k53 53 w' w.heap.size (fun k_ => w.heap.size ≤ k_) v0_ r1 ∧ Below w.heap.size w w' := by
  unfold weigh_Make.f at h
  by_cases hp : (1 ≤ a0 ∧ a0 ≤ 13) ∧ 0 ≤ a1 ∧ a1 ≤ 3
  rotate_left
  · rw [if_neg hp] at h
    simp only [Option.some.injEq, Prod.mk.injEq] at h
    obtain ⟨rfl, rfl, rfl⟩ := h
    have HF := Aside0.mk (counted_no hp)
    clear hp
    go_enter Try.func31, Try.ntmps31
    go_wp2_with (first | (go_at_call 49; (with_reducible refine (weigh_counted.calls a0 a1 1 _ HF.out).mono ?_); rintro e w' ⟨rfl, ⟨nd, rfl⟩⟩))
    go_ret3
    exact ⟨_, rfl, Kd.N_nil _ _ _ _ _, pw_below_drewN (Below.refl _ _) _⟩
  rw [if_pos hp] at h
  have HC := Aside0.mk (counted_yes hp)
  have hlen := searchR_len a0 a1.toNat (by omega)
  have HS : Aside0 (weigh_search.f a0 a1 = some ((searchR a0 a1.toNat).1, (searchR a0 a1.toNat).2)) := ⟨by unfold weigh_search.f; rw [if_pos hp]⟩
  obtain ⟨n, rfl⟩ := Int.eq_ofNat_of_zero_le hp.2.1
  have hn3 : n ≤ 3 := by omega
  clear hp
  rw [show ((n : Nat) : Int).toNat = n from rfl] at h hlen HS
  generalize searchR a0 n = SR at h hlen HS
  obtain ⟨L, b⟩ := SR
  dsimp only at h hlen HS
  cases b with
  | false =>
    rw [if_neg (by simp)] at h
    simp only [Option.some.injEq, Prod.mk.injEq] at h
    obtain ⟨rfl, rfl, rfl⟩ := h
    go_enter Try.func31, Try.ntmps31
    go_upto_region 4 with (first | (go_at_call 49; (with_reducible refine (weigh_counted.calls a0 n 0 _ HC.out).mono ?_); rintro e w' ⟨rfl, ⟨nd, rfl⟩⟩))
    go_wp2_with fail
    refine (weigh_search.calls a0 n L false _ HS.out).mono ?_
    rintro e w1 ⟨v, rfl, hO, hb⟩
    have HB1 := Aside0.mk ((pw_below_drewN (Below.refl _ w) _).trans hb)
    clear hO hb
    go_wp2
    go_ret3
    exact ⟨_, rfl, Kd.N_nil _ _ _ _ _, HB1.out⟩
  | true =>
    rw [if_pos rfl] at h
    simp only [Option.some.injEq, Prod.mk.injEq] at h
    obtain ⟨rfl, rfl, rfl⟩ := h
    go_enter Try.func31, Try.ntmps31
    go_upto_region 4 with (first | (go_at_call 49; (with_reducible refine (weigh_counted.calls a0 n 0 _ HC.out).mono ?_); rintro e w' ⟨rfl, ⟨nd, rfl⟩⟩))
    go_wp2_with fail
    refine (weigh_search.calls a0 n L true _ HS.out).mono ?_
    rintro e w2 ⟨v, rfl, hO, hb⟩
    obtain ⟨A, c, rfl⟩ := Kd.R_slice hO
    obtain ⟨_, hLc, hC⟩ := Kd.R_reads' hO
    have HB2 := Aside0.mk ((pw_below_drewN (Below.refl _ w) _).trans hb)
    have HL := Aside0.mk hC
    clear hO hC hb
    go_wp2
    go_loopg [10, 30] n (fun gg v10 s wr => ∃ (k : Nat) (out : List S53), k ≤ n ∧ n - k ≤ gg ∧ s = .int .i64 k ∧ Aside0 (Below w2.heap.size w2 wr) ∧ Aside0 (Kd.N k53 53 wr w2.heap.size (fun k_ => w2.heap.size ≤ k_) v10 out) ∧ Aside0 (out = (List.range k).map (pairOf L)))
    case atStart => exact ⟨0, [], Nat.zero_le _, by omega, rfl, ⟨Below.refl _ _⟩, ⟨Kd.N_nil _ _ _ _ _⟩, ⟨rfl⟩⟩
    case round =>
      obtain ⟨k, out, hk, hg, rfl, BR, HO, AX⟩ := hrel
      by_cases hkn : k < n
      · have hknz : (k : Int) < (n : Int) := by omega
        have hk3 : k < 3 := by omega
        obtain ⟨wo, rfl⟩ : ∃ q : World, q = wr := ⟨_, rfl⟩
        obtain ⟨go, rfl⟩ : ∃ q : Nat, q = gk := ⟨_, rfl⟩
        go_wp2
        have HMS : Aside0 (MkS wo wo.heap.size (wo.alloc (.cells #[.slice none 0 0, .slice none 0 0] 53)) (.slice none 0 0) (.slice none 0 0) [] []) :=
          ⟨⟨blk_new _ _, Kd.R_nil _ _ _ _ _, Kd.R_nil _ _ _ _ _, (Below.refl _ _).alloc (Nat.le_refl _) _, by simp, Nat.le_refl _⟩⟩
        obtain ⟨g, hg'⟩ : ∃ g, g = wo.heap.size := ⟨_, rfl⟩
        have HGW := Aside0.mk hg'
        rw [← hg'] at HMS ⊢
        clear hg'
        go_loopg [35] L.length (fun gg s wi => ∃ (i : Nat) (vL vR : Value) (xs ys : List Int), i ≤ L.length ∧ L.length - i ≤ gg ∧ s = .int .i64 i ∧ Aside0 (MkS wo g wi vL vR xs ys) ∧ Aside0 (xs ++ sideOf k 1 i (L.drop i) = sideOf k 1 0 L) ∧ Aside0 (ys ++ sideOf k (-1) i (L.drop i) = sideOf k (-1) 0 L))
        case atStart => exact ⟨0, _, _, [], [], Nat.zero_le _, by omega, rfl, HMS, ⟨rfl⟩, ⟨rfl⟩⟩
        case round =>
          obtain ⟨i, vL, vR, xs, ys, hi, hgi, rfl, HM, EL, ER⟩ := hrel
          by_cases hil : i < L.length
          · have hilz : (i : Int) < (L.length : Int) := by omega
            obtain ⟨ad, e1, hx0, hx1, hx2⟩ := at_T70 HL.out i (by omega) hilz
            cases e1
            have BI := BR.out.trans (HM.out.2.2.2.1.mono BR.out.size)
            replace hx0 := (BI.cell (World.block_lt_of_cell? w2 _ hx0)).trans hx0
            replace hx1 := (BI.cell (World.block_lt_of_cell? w2 _ hx1)).trans hx1
            replace hx2 := (BI.cell (World.block_lt_of_cell? w2 _ hx2)).trans hx2
            simp only [Int.toNat_natCast] at hx0 hx1 hx2
            rw [show rd_T70 L (i : Int) = L.getD i z70 from rfl] at hx0 hx1 hx2
            have SL : Aside0 (sideOf k 1 i (L.drop i) = if getk (L.getD i z70) k = 1 then (i : Int) :: sideOf k 1 (i + 1) (L.drop (i + 1)) else sideOf k 1 (i + 1) (L.drop (i + 1))) := ⟨by rw [dropD z70 L i hil]; rfl⟩
            have SR : Aside0 (sideOf k (-1) i (L.drop i) = if getk (L.getD i z70) k = -1 then (i : Int) :: sideOf k (-1) (i + 1) (L.drop (i + 1)) else sideOf k (-1) (i + 1) (L.drop (i + 1))) := ⟨by rw [dropD z70 L i hil]; rfl⟩
            have HLX : Aside0 (0 = 0 ∧ xs.length ≤ 13 ∧ ys.length ≤ 13) := by
              refine ⟨rfl, ?_, ?_⟩
              · have h := congrArg List.length EL.out
                rw [List.length_append] at h
                have := sideOf_len k 1 L 0
                omega
              · have h := congrArg List.length ER.out
                rw [List.length_append] at h
                have := sideOf_len k (-1) L 0
                omega
            clear BI
            generalize L.getD i z70 = m at *
            go_upto_region 15 with (fail)
            have hq := (blk_cell (blk_new wr (.cells (cells3 m) 70)) k).trans (cells3_get m k hk3)
            have HM1 := Aside0.mk (HM.out.alloc (.cells (cells3 m) 70))
            rw [show (Obj.cells #[Value.int .i64 m.f0, Value.int .i64 m.f1, Value.int .i64 m.f2] 70) = .cells (cells3 m) 70 from rfl]
            generalize wr.alloc (.cells (cells3 m) 70) = W1 at *
            clear HM hx0 hx1 hx2
            obtain ⟨x, hx⟩ : ∃ x, x = getk m k := ⟨_, rfl⟩
            rw [← hx] at hq SL SR
            clear hx
            by_cases hx : x = 1
            · skip
              have EL2 : Aside0 ((xs ++ [(i : Int)]) ++ sideOf k 1 (i + 1) (L.drop (i + 1)) = sideOf k 1 0 L) := ⟨by rw [← EL.out, SL.out, if_pos hx]; simp⟩
              have ER2 : Aside0 (ys ++ sideOf k (-1) (i + 1) (L.drop (i + 1)) = sideOf k (-1) 0 L) := ⟨by rw [← ER.out, SR.out, if_neg (by rw [hx]; decide)]⟩
              clear EL ER SL SR
              have q0 : W1.cell? ⟨g, 0, none⟩ = some vL := (blk_cell HM1.out.1 0)
              have hlx := HLX.out.2.1
              subst hx
              go_wp2_with (first | (at_builtin; refine Kd.R_append (Kd.int .i64) (w0 := wo) wo.heap.size rfl (.tmp 46) (.tmp 48) 43 3 (.int .i64 0) 8 rfl Try.underlying43 info3 rfl (by decide) (by omega) vL xs (i : Int) [.int .i64 (i : Int)] (fun q => q ≠ g ∧ some q ≠ vR.ownBlock) (fun _ => False) rfl rfl ?aP (fun _ h => h.elim) ?aF HM1.out.2.1 HM1.out.2.2.2.1 HM1.out.2.2.2.1.size ?aL ?_))
              case aP => exact rfl
              case aF =>
                intro q hq
                have h5 := HM1.out.2.2.2.2.1
                refine ⟨by omega, fun he => ?_⟩
                have := (Kd.R_bound HM1.out.2.2.1).1 q he.symm
                omega
              case aL => omega
              intro v1 w3 hR3 hB3 hG3 hat3
              obtain ⟨zs, hzs⟩ : ∃ z, z = xs ++ [(i : Int)] := ⟨_, rfl⟩
              rw [← hzs] at hR3 EL2
              clear hzs
              obtain ⟨A1, c1, rfl⟩ := Kd.R_slice hR3
              have hX3 := blk_grown HM1.out.1 hG3 (Kd.R_away HM1.out.2.1 (fun q hq => hq.1))
              have HN := Aside0.mk (MkS.left HM1.out hR3 hB3 hG3 hat3)
              have c3 : w3.cell? ⟨g, 0, none⟩ = some vL := blk_cell hX3 0
              have f3 : w3.frozen? ⟨g, 0, none⟩ = false := blk_frozen hX3 0
              clear hX3 hR3 hB3 hG3 hat3 HM1 q0
              go_wp2
              go_roundg (L.length - (i + 1))
              case measure => omega
              case rel => exact ⟨i + 1, _, vR, _, ys, by omega, by omega, by go_num, HN, EL2, ER2⟩
            by_cases hx : x = -1
            · skip
              have EL2 : Aside0 (xs ++ sideOf k 1 (i + 1) (L.drop (i + 1)) = sideOf k 1 0 L) := ⟨by rw [← EL.out, SL.out, if_neg (by rw [hx]; decide)]⟩
              have ER2 : Aside0 ((ys ++ [(i : Int)]) ++ sideOf k (-1) (i + 1) (L.drop (i + 1)) = sideOf k (-1) 0 L) := ⟨by rw [← ER.out, SR.out, if_pos hx]; simp⟩
              clear EL ER SL SR
              have q0 : W1.cell? ⟨g, 1, none⟩ = some vR := (blk_cell HM1.out.1 1)
              have hlx := HLX.out.2.2
              subst hx
              go_wp2_with (first | (at_builtin; refine Kd.R_append (Kd.int .i64) (w0 := wo) wo.heap.size rfl (.tmp 54) (.tmp 56) 43 3 (.int .i64 0) 8 rfl Try.underlying43 info3 rfl (by decide) (by omega) vR ys (i : Int) [.int .i64 (i : Int)] (fun q => q ≠ g ∧ some q ≠ vL.ownBlock) (fun _ => False) rfl rfl ?aP (fun _ h => h.elim) ?aF HM1.out.2.2.1 HM1.out.2.2.2.1 HM1.out.2.2.2.1.size ?aL ?_))
              case aP => exact rfl
              case aF =>
                intro q hq
                have h5 := HM1.out.2.2.2.2.1
                refine ⟨by omega, fun he => ?_⟩
                have := (Kd.R_bound HM1.out.2.1).1 q he.symm
                omega
              case aL => omega
              intro v1 w3 hR3 hB3 hG3 hat3
              obtain ⟨zs, hzs⟩ : ∃ z, z = ys ++ [(i : Int)] := ⟨_, rfl⟩
              rw [← hzs] at hR3 ER2
              clear hzs
              obtain ⟨A1, c1, rfl⟩ := Kd.R_slice hR3
              have hX3 := blk_grown HM1.out.1 hG3 (Kd.R_away HM1.out.2.2.1 (fun q hq => hq.1))
              have HN := Aside0.mk (MkS.right HM1.out hR3 hB3 hG3 hat3)
              have c3 : w3.cell? ⟨g, 1, none⟩ = some vR := blk_cell hX3 1
              have f3 : w3.frozen? ⟨g, 1, none⟩ = false := blk_frozen hX3 1
              clear hX3 hR3 hB3 hG3 hat3 HM1 q0
              go_wp2
              go_roundg (L.length - (i + 1))
              case measure => omega
              case rel => exact ⟨i + 1, vL, _, xs, _, by omega, by omega, by go_num, HN, EL2, ER2⟩
            have EL2 : Aside0 (xs ++ sideOf k 1 (i + 1) (L.drop (i + 1)) = sideOf k 1 0 L) := ⟨by rw [← EL.out, SL.out, if_neg (by assumption)]⟩
            have ER2 : Aside0 (ys ++ sideOf k (-1) (i + 1) (L.drop (i + 1)) = sideOf k (-1) 0 L) := ⟨by rw [← ER.out, SR.out, if_neg hx]⟩
            clear EL ER SL SR
            go_wp2
            go_roundg (L.length - (i + 1))
            case measure => omega
            case rel => exact ⟨i + 1, vL, vR, xs, ys, by omega, by omega, by go_num, HM1, EL2, ER2⟩
          · have hilz : ¬ (i : Int) < (L.length : Int) := by omega
            obtain rfl : i = L.length := by omega
            obtain ⟨AL, cL, rfl⟩ := Kd.R_slice HM.out.2.1
            obtain ⟨AR, cR, rfl⟩ := Kd.R_slice HM.out.2.2.1
            obtain ⟨Av, cv, rfl⟩ := Kd.N_slice HO.out
            have c0 : wr.cell? ⟨g, 0, none⟩ = some (.slice AL xs.length cL) := blk_cell HM.out.1 0
            have c1 : wr.cell? ⟨g, 1, none⟩ = some (.slice AR ys.length cR) := blk_cell HM.out.1 1
            have hxe := Aside0.mk (show xs = sideOf k 1 0 L by rw [← EL.out, List.drop_length]; simp [sideOf])
            have hye := Aside0.mk (show ys = sideOf k (-1) 0 L by rw [← ER.out, List.drop_length]; simp [sideOf])
            have hol : out.length ≤ 3 := by rw [AX.out]; simp; omega
            go_wp2_with (first | (at_builtin; refine Kd.N_append k53 (w0 := w2) w2.heap.size rfl (.tmp 60) (.tmp 62) 22 53 (.agg #[(.slice none 0 0), (.slice none 0 0)]) 48 rfl Try.underlying22 info53 rfl (by decide) (by omega) (.slice Av out.length cv) out (⟨xs, ys⟩ : S53) [.slice AL xs.length cL, .slice AR ys.length cR] (fun k_ => w2.heap.size ≤ k_) (fun k_ => some k_ = (.slice AL xs.length cL : Value).ownBlock ∨ some k_ = (.slice AR ys.length cR : Value).ownBlock) rfl rfl ?aP ?aK ?aF ?aO ?aB ?aS ?aL ?_))
            case aP => exact Kd.FK_of_M (k53_mkM _ wo.heap.size _ (⟨xs, ys⟩ : S53) (Kd.R_mono (Kd.R_tight rfl HM.out.2.1) (fun _ h => Or.inl h)) (Kd.R_mono (Kd.R_tight rfl HM.out.2.2.1) (fun _ h => Or.inr h)))
            case aK =>
              intro q hq
              have h1 : wo.heap.size ≤ q := by
                rcases hq with h | h
                · exact Kd.R_base HM.out.2.1 q h.symm
                · exact Kd.R_base HM.out.2.2.1 q h.symm
              refine ⟨by have := BR.out.size; omega, fun he => ?_⟩
              have h2 := Kd.N_lt HO.out q he.symm
              omega
            case aF => intro q hq; have h1 := BR.out.size; have h2 := HM.out.2.2.2.1.size; omega
            case aO => exact Kd.N_below HO.out HM.out.2.2.2.1
            case aB => exact BR.out.trans (HM.out.2.2.2.1.mono BR.out.size)
            case aS => have h1 := BR.out.size; have h2 := HM.out.2.2.2.1.size; omega
            case aL => omega
            intro v1 w3 hN hB3 _ _
            have HN := Aside0.mk hN
            have HB3 := Aside0.mk hB3
            clear hN hB3
            go_wp2
            go_roundg (n - (k + 1))
            case measure => omega
            case rel =>
              refine ⟨k + 1, _, by omega, by omega, by go_num, HB3, HN, ⟨?_⟩⟩
              rw [AX.out, List.range_succ, List.map_append, hxe.out, hye.out]
              rfl
      · have hknz : ¬ (k : Int) < (n : Int) := by omega
        obtain rfl : k = n := by omega
        go_wp2
        go_ret3
        refine ⟨_, rfl, ?_, HB2.out.trans (BR.out.mono HB2.out.size)⟩
        have h := Kd.N_mono (ok' := fun k_ => w.heap.size ≤ k_) (Kd.N_lower HO.out HB2.out.size) (fun k hk => Nat.le_trans HB2.out.size hk)
        rw [AX.out] at h
        exact h
end Go.Proofs.Ytdbeochifofdoaa.X
end

section
namespace Go.Proofs.Ytdbeochifofdoaa.X
open Go.RowKit Go.Proofs.YtdbeochifofdoaaW.PrintWords Go.Proofs.YtdbeochifofdoaaW.PrintLast Go.Proofs.YtdbeochifofdoaaW.PrintMore

set_option maxHeartbeats 2000000 in
set_option maxRecDepth 100000 in
theorem indexFunc119 (g : Nat) (lb : Array Value) (eg : ∀ args w, (callFunc g args).run Try.prog w = .ok (.enter g args) w) (p : List Int → Bool) (A0 : Option Addr) (c0 : Nat) (l0 : List (List Int)) (w : World)
    (hr0 : Kd.C (Kd.slice 3 (Kd.int .i64)) w A0 l0.length l0) (hp : ∀ (W : World) (x : List Int) (A : Option Addr) (c : Nat), x ∈ l0 → (Kd.int .i64).C W A x.length x → x.length ≤ c → Below w.heap.size w W → Calls Try.prog g (#[.slice A x.length c] ++ lb) W fun e w' => e = .returned (.bool (p x)) ∧ Below W.heap.size W w') :
    Calls Try.prog 119 #[.slice A0 l0.length c0, .func (.func g) #[] lb] w fun e w' => e = .returned (.int .i64 (ixf p l0 0)) ∧ Below w.heap.size w w' := by
  have HR := Aside0.mk hr0
  have HP := Aside0.mk hp
  have HM := Aside0.mk (Kd.C_max hr0)
  clear hr0 hp
  have hlen : l0.length ≤ 9223372036854775807 := HM.out
  go_enter Try.func119, Try.ntmps119
  go_wp2
  go_loopg [5, 8] l0.length (fun gg _ s8 wr => ∃ kk : Nat, kk ≤ l0.length ∧ l0.length - kk ≤ gg ∧ s8 = .int .i64 kk ∧ Aside0 (Below w.heap.size w wr) ∧ Aside0 (ixf p (l0.drop kk) kk = ixf p l0 0))
  case atStart => exact ⟨0, Nat.zero_le _, by omega, rfl, ⟨Below.refl _ w⟩, ⟨by simp⟩⟩
  case round =>
    obtain ⟨kk, hkk, hg, rfl, BW, A⟩ := hrel
    by_cases hlt : kk < l0.length
    · have hltz : (kk : Int) < (l0.length : Int) := by omega
      obtain ⟨ad, A1, c1, e1, hcell, hle, hC⟩ := at_L5 HR.out kk (by omega) hltz
      cases e1
      have hmem : rd_L5 l0 kk ∈ l0 := by simp [rd_L5, List.getD_eq_getElem?_getD, List.getElem?_eq_getElem hlt]
      have hcall := HP.out wr (rd_L5 l0 kk) A1 c1 hmem (Kd.C_below hC BW.out) hle BW.out
      rw [show rd_L5 l0 (kk : Int) = l0.getD kk [] from rfl] at hcall hcell
      replace hcell := (BW.out.cell (World.block_lt_of_cell? w _ hcell)).trans hcell
      simp only [Int.toNat_natCast] at hcell
      clear hmem hle hC
      generalize hy : (l0.getD kk []) = y at *
      have B : Aside0 (l0.drop kk = y :: l0.drop (kk + 1)) := ⟨by rw [← hy]; exact drop_getD _ l0 kk hlt⟩
      clear hy
      cases hq : p y with
      | true =>
        rw [hq] at hcall
        have Q := Aside0.mk hq
        clear hq
        go_wp2_with (go_at_fn g; refine hcall.mono ?_; rintro e w' ⟨rfl, hb'⟩)
        go_ret
        refine ⟨?_, BW.out.trans (hb'.mono BW.out.size)⟩
        rw [← A.out, B.out, ixf, if_pos Q.out]
        rfl
      | false =>
        rw [hq] at hcall
        have Q := Aside0.mk hq
        clear hq
        go_wp2_with (go_at_fn g; refine hcall.mono ?_; rintro e w' ⟨rfl, hb'⟩)
        go_roundg (l0.length - (kk + 1))
        case measure => omega
        case rel =>
          refine ⟨kk + 1, by omega, by omega, by go_num, ⟨BW.out.trans (hb'.mono BW.out.size)⟩, ⟨?_⟩⟩
          rw [← A.out, B.out, ixf, if_neg (by rw [Q.out]; simp)]
          rfl
    · have hltz : ¬ (kk : Int) < (l0.length : Int) := by omega
      have hkl : l0.length ≤ kk := by omega
      go_wp2
      go_ret
      refine ⟨?_, BW.out⟩
      rw [← A.out, List.drop_eq_nil_of_le hkl]
      rfl
set_option maxHeartbeats 1000000 in
theorem containsFunc103 (g : Nat) (lb : Array Value) (eg : ∀ args w, (callFunc g args).run Try.prog w = .ok (.enter g args) w) (p : List Int → Bool) (A0 : Option Addr) (c0 : Nat) (l0 : List (List Int)) (w : World)
    (hr0 : Kd.C (Kd.slice 3 (Kd.int .i64)) w A0 l0.length l0) (hp : ∀ (W : World) (x : List Int) (A : Option Addr) (c : Nat), x ∈ l0 → (Kd.int .i64).C W A x.length x → x.length ≤ c → Below w.heap.size w W → Calls Try.prog g (#[.slice A x.length c] ++ lb) W fun e w' => e = .returned (.bool (p x)) ∧ Below W.heap.size W w') :
    Calls Try.prog 103 #[.slice A0 l0.length c0, .func (.func g) #[] lb] w fun e w' => e = .returned (.bool (l0.any p)) ∧ Below w.heap.size w w' := by
  rw [← ixf_any p l0 0 (by omega)]
  have HR := Aside0.mk hr0
  have HP := Aside0.mk hp
  clear hr0 hp
  go_enter Try.func103, Try.ntmps103
  go_wp2_with (go_at_call 119; refine (indexFunc119 g lb eg p A0 c0 l0 _ HR.out HP.out).mono ?_; rintro e w' ⟨rfl, hb'⟩)
  go_ret
  exact ⟨rfl, hb'⟩
end Go.Proofs.Ytdbeochifofdoaa.X
end

section
namespace Go.Proofs.Ytdbeochifofdoaa.X
open Go.RowKit Go.Proofs.YtdbeochifofdoaaW.PrintWords Go.Proofs.YtdbeochifofdoaaW.PrintLast Go.Proofs.YtdbeochifofdoaaW.PrintMore

set_option maxHeartbeats 2000000 in
set_option maxRecDepth 100000 in
theorem indexFunc124 (g : Nat) (lb : Array Value) (eg : ∀ args w, (callFunc g args).run Try.prog w = .ok (.enter g args) w) (p : S35 → Bool) (A0 : Option Addr) (c0 : Nat) (l0 : List (S35)) (w : World)
    (hr0 : Kd.C k35 w A0 l0.length l0) (hp : ∀ (W : World) (x : S35), x ∈ l0 → Below w.heap.size w W → Calls Try.prog g (#[.agg #[.int .i64 x.f0, .int .i64 x.f1]] ++ lb) W fun e w' => e = .returned (.bool (p x)) ∧ Below W.heap.size W w') :
    Calls Try.prog 124 #[.slice A0 l0.length c0, .func (.func g) #[] lb] w fun e w' => e = .returned (.int .i64 (ixf p l0 0)) ∧ Below w.heap.size w w' := by
  have HR := Aside0.mk hr0
  have HP := Aside0.mk hp
  have HM := Aside0.mk (Kd.C_max hr0)
  clear hr0 hp
  have hlen : l0.length ≤ 9223372036854775807 := HM.out
  go_enter Try.func124, Try.ntmps124
  go_wp2
  go_loopg [5, 8] l0.length (fun gg _ s8 wr => ∃ kk : Nat, kk ≤ l0.length ∧ l0.length - kk ≤ gg ∧ s8 = .int .i64 kk ∧ Aside0 (Below w.heap.size w wr) ∧ Aside0 (ixf p (l0.drop kk) kk = ixf p l0 0))
  case atStart => exact ⟨0, Nat.zero_le _, by omega, rfl, ⟨Below.refl _ w⟩, ⟨by simp⟩⟩
  case round =>
    obtain ⟨kk, hkk, hg, rfl, BW, A⟩ := hrel
    by_cases hlt : kk < l0.length
    · have hltz : (kk : Int) < (l0.length : Int) := by omega
      obtain ⟨ad, e1, hcell, hcell1⟩ := at_T35 HR.out kk (by omega) hltz
      cases e1
      have hmem : rd_T35 l0 kk ∈ l0 := by simp [rd_T35, List.getD_eq_getElem?_getD, List.getElem?_eq_getElem hlt]
      have hcall := HP.out wr (rd_T35 l0 kk) hmem BW.out
      rw [show rd_T35 l0 (kk : Int) = l0.getD kk z35 from rfl] at hcall hcell hcell1
      replace hcell := (BW.out.cell (World.block_lt_of_cell? w _ hcell)).trans hcell
      replace hcell1 := (BW.out.cell (World.block_lt_of_cell? w _ hcell1)).trans hcell1
      simp only [Int.toNat_natCast] at hcell hcell1
      clear hmem
      generalize hy : (l0.getD kk z35) = y at *
      have B : Aside0 (l0.drop kk = y :: l0.drop (kk + 1)) := ⟨by rw [← hy]; exact drop_getD _ l0 kk hlt⟩
      clear hy
      cases hq : p y with
      | true =>
        rw [hq] at hcall
        have Q := Aside0.mk hq
        clear hq
        go_wp2_with (go_at_fn g; refine hcall.mono ?_; rintro e w' ⟨rfl, hb'⟩)
        go_ret
        refine ⟨?_, BW.out.trans (hb'.mono BW.out.size)⟩
        rw [← A.out, B.out, ixf, if_pos Q.out]
        rfl
      | false =>
        rw [hq] at hcall
        have Q := Aside0.mk hq
        clear hq
        go_wp2_with (go_at_fn g; refine hcall.mono ?_; rintro e w' ⟨rfl, hb'⟩)
        go_roundg (l0.length - (kk + 1))
        case measure => omega
        case rel =>
          refine ⟨kk + 1, by omega, by omega, by go_num, ⟨BW.out.trans (hb'.mono BW.out.size)⟩, ⟨?_⟩⟩
          rw [← A.out, B.out, ixf, if_neg (by rw [Q.out]; simp)]
          rfl
    · have hltz : ¬ (kk : Int) < (l0.length : Int) := by omega
      have hkl : l0.length ≤ kk := by omega
      go_wp2
      go_ret
      refine ⟨?_, BW.out⟩
      rw [← A.out, List.drop_eq_nil_of_le hkl]
      rfl
set_option maxHeartbeats 1000000 in
theorem containsFunc114 (g : Nat) (lb : Array Value) (eg : ∀ args w, (callFunc g args).run Try.prog w = .ok (.enter g args) w) (p : S35 → Bool) (A0 : Option Addr) (c0 : Nat) (l0 : List (S35)) (w : World)
    (hr0 : Kd.C k35 w A0 l0.length l0) (hp : ∀ (W : World) (x : S35), x ∈ l0 → Below w.heap.size w W → Calls Try.prog g (#[.agg #[.int .i64 x.f0, .int .i64 x.f1]] ++ lb) W fun e w' => e = .returned (.bool (p x)) ∧ Below W.heap.size W w') :
    Calls Try.prog 114 #[.slice A0 l0.length c0, .func (.func g) #[] lb] w fun e w' => e = .returned (.bool (l0.any p)) ∧ Below w.heap.size w w' := by
  rw [← ixf_any p l0 0 (by omega)]
  have HR := Aside0.mk hr0
  have HP := Aside0.mk hp
  clear hr0 hp
  go_enter Try.func114, Try.ntmps114
  go_wp2_with (go_at_call 124; refine (indexFunc124 g lb eg p A0 c0 l0 _ HR.out HP.out).mono ?_; rintro e w' ⟨rfl, hb'⟩)
  go_ret
  exact ⟨rfl, hb'⟩
end Go.Proofs.Ytdbeochifofdoaa.X
end
