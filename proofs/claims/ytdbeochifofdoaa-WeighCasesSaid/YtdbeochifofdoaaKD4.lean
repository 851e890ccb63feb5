/- The law WeighCases of the given program: which cases have given answers.
Its conditions: none beyond the statement's own. Part 5 of 6 of the proof. -/
import Derived.ChangeArms
import Derived.ChangeSlices
import Derived.SizedLaws
import Derived.Test.YtdbeochifofdoaaKD3
section
-- Written by a program of this session (wip/hook.py, which runs the kit's print.py with contracts proved by hand). Not trusted: Lean checks it.
namespace Go.Proofs.Ytdbeochifofdoaa.X
open Go.RowKit Go.Proofs.YtdbeochifofdoaaW.PrintWords Go.Proofs.YtdbeochifofdoaaW.PrintLast Go.Proofs.YtdbeochifofdoaaW.PrintMore
attribute [local go_sem] max2_int min2_int max_two min_two max_three min_three max_four min_four   -- for this text's walks alone
set_option linter.unusedVariables false
set_option linter.unusedSimpArgs false

/-! ### verditerlaw06_weighCases: function 34 -/
def verditerlaw06_weighCases.j0 : Nat → Int → List (S53) → List Int → Bool → Option (Bool)
  | 0, _, _, _, _ => none
  | k + 1, x0, x1, x2, x19 => if x19 = true then ((verditerlaw06_known.f k).bind fun t481 => (some t481)) else ((verditerref06_Cases.f k x0 x1 x2).bind fun bt482 => ((weigh_Cases.f x0 x1 x2).bind fun bt487 => (if bt487.2.2 = bt482.2.2 then (if (bt487.2.1 == bt482.2.1) = true then ((verditerref06_SameCases.f k bt487.1 bt482.1).bind fun t492 => (if t492 = true then ((verditerlaw06_known.f k).bind fun t493 => (some t493)) else (some false))) else (some false)) else (some false))))
def verditerlaw06_weighCases.f (k : Nat) (a0 : Int) (l1 : List (S53)) (l2 : List Int) : Option (Bool) := (verditerlaw06_Long.f k l1).bind fun t480 => (if t480 = true then (verditerlaw06_weighCases.j0 k a0 l1 l2 true) else (verditerlaw06_weighCases.j0 k a0 l1 l2 (decide ((l2.length : Int) > 100))))
theorem verditerlaw06_weighCases.mono_l : ∀ k, (∀ y0 y1 y2 y3, LeO (verditerlaw06_weighCases.j0 k y0 y1 y2 y3) (verditerlaw06_weighCases.j0 (k + 1) y0 y1 y2 y3))
  | 0 => fun _ _ _ _ r h => by simp [verditerlaw06_weighCases.j0] at h
  | k + 1 => by
    have ih0 := verditerlaw06_weighCases.mono_l k
    · intro y0 y1 y2 y3
      unfold verditerlaw06_weighCases.j0
      repeat' first
      | (with_reducible exact ih0 _ _ _ _)
      | (with_reducible exact verditerlaw06_Long.mono _ _)
      | (with_reducible exact verditerlaw06_known.mono _)
      | (with_reducible exact verditerref06_Cases.mono _ _ _ _)
      | (with_reducible exact verditerref06_SameCases.mono _ _ _)
      | (with_reducible exact LeO.refl _)
      | (with_reducible exact LeO.none _)
      | (with_reducible refine LeO.ite ?_ ?_)
      | (with_reducible refine LeO.bind ?_ (fun _ => ?_))
      | exact ih0 _ _ _ _
      | exact verditerlaw06_Long.mono _ _
      | exact verditerlaw06_known.mono _
      | exact verditerref06_Cases.mono _ _ _ _
      | exact verditerref06_SameCases.mono _ _ _
      | exact LeO.none _
      | refine LeO.ite ?_ ?_
      | refine LeO.bind ?_ (fun _ => ?_)
theorem verditerlaw06_weighCases.mono : ∀ a0 a1 a2 k, LeO (verditerlaw06_weighCases.f k a0 a1 a2) (verditerlaw06_weighCases.f (k + 1) a0 a1 a2) := by
  intro a0 a1 a2 k
  have ih0 := verditerlaw06_weighCases.mono_l k
  unfold verditerlaw06_weighCases.f
  repeat' first
      | (with_reducible exact ih0 _ _ _ _)
      | (with_reducible exact verditerlaw06_Long.mono _ _)
      | (with_reducible exact verditerlaw06_known.mono _)
      | (with_reducible exact verditerref06_Cases.mono _ _ _ _)
      | (with_reducible exact verditerref06_SameCases.mono _ _ _)
      | (with_reducible exact LeO.refl _)
      | (with_reducible exact LeO.none _)
      | (with_reducible refine LeO.ite ?_ ?_)
      | (with_reducible refine LeO.bind ?_ (fun _ => ?_))
      | exact ih0 _ _ _ _
      | exact verditerlaw06_Long.mono _ _
      | exact verditerlaw06_known.mono _
      | exact verditerref06_Cases.mono _ _ _ _
      | exact verditerref06_SameCases.mono _ _ _
      | exact LeO.none _
      | refine LeO.ite ?_ ?_
      | refine LeO.bind ?_ (fun _ => ?_)
set_option maxHeartbeats 8000000 in
set_option maxRecDepth 100000 in
theorem verditerlaw06_weighCases.calls (k : Nat) (a0 : Int) (A1 : Option Addr) (c1 : Nat) (l1 : List (S53)) (A2 : Option Addr) (c2 : Nat) (l2 : List Int) (r : Bool) (w : World) (hr1 : Kd.C k53 w A1 l1.length l1) (hc1 : l1.length ≤ c1) (hr2 : Kd.C (Kd.int .i64) w A2 l2.length l2) (hc2 : l2.length ≤ c2) (h : verditerlaw06_weighCases.f k a0 l1 l2 = some r) :
    Calls Try.prog 34 #[.int .i64 a0, .slice A1 l1.length c1, .slice A2 l2.length c2] w fun e w' => e = .returned (.bool r) ∧ Below w.heap.size w w' := by
  have HR1 := Aside0.mk hr1
  have HC1 := Aside0.mk hc1
  clear hr1 hc1
  have HR2 := Aside0.mk hr2
  have HC2 := Aside0.mk hc2
  clear hr2 hc2
  have HB := Aside0.mk (Below.refl w.heap.size w)
  have H : ((verditerlaw06_Long.f k l1).bind fun t480 => (if t480 = true then (verditerlaw06_weighCases.j0 k a0 l1 l2 true) else (verditerlaw06_weighCases.j0 k a0 l1 l2 (decide ((l2.length : Int) > 100))))) = some r := h
  clear h
  have HC4 := Aside0.mk H
  clear H
  go_enter Try.func34, Try.ntmps34
  go_upto_region 1 with (fail)
  go_cut [19] (fun v19 wc => ∃ (kq : Nat) (x19_3 : Bool), v19 = .bool x19_3 ∧ Aside0 (verditerlaw06_weighCases.j0 kq a0 l1 l2 x19_3 = some r) ∧ Aside0 (kq ≤ k) ∧ Aside0 (Below w.heap.size w wc))
  case first =>
    have H := HC4.out
    clear HC4
    replace H := Option.bind_eq_some_iff.mp H
    obtain ⟨t480, A50, H⟩ := H
    replace H : (if t480 = true then (verditerlaw06_weighCases.j0 k a0 l1 l2 true) else (verditerlaw06_weighCases.j0 k a0 l1 l2 (decide ((l2.length : Int) > 100)))) = some r := H
    have A5 := Aside0.mk A50
    clear A50
    by_cases c6 : t480 = true
    · subst c6
      have H1 : (verditerlaw06_weighCases.j0 k a0 l1 l2 true) = some r := by rw [if_pos rfl] at H; exact H
      clear H
      have H := H1
      clear H1
      have H' := Aside0.mk H
      clear H
      go_wp2_with (first | ((with_reducible refine gate_callee (f := 43) rfl ?_); refine goesL_ (some 14) rfl rfl Try.func43 (by kernel_rfl) rfl #[.slice A1 l1.length c1] rfl (by (try simp only [List.map_toArray, List.map_cons, List.map_nil]); first | done | rfl | (simp only [List.length_drop, List.length_take]; rfl)) ?_; (with_reducible refine (verditerlaw06_Long.calls k _ _ l1 true _ ?side1 ?side2 A5.out).mono ?_); (case side1 => repeat (first | exact (Kd.C_below HR1.out HB.out) | (with_reducible refine Kd.C_alloc ?_ _) | (with_reducible refine Kd.C_drewN ?_ _) | (with_reducible refine Kd.C_drew ?_))); (case side2 => exact HC1.out); rintro e w' ⟨rfl, ⟨nd, rfl⟩⟩; refine ⟨_, rfl, ?_⟩))
      go_meet
      case rel => exact ⟨_, (true), (by first | rfl | (simp; done) | (simp [*]; done)), H', ⟨by first | omega | exact Nat.le_refl _⟩, ⟨by repeat (first | (with_reducible first | exact HB.out | apply below_alloc | apply pw_below_drewN | apply below_drew1) | exact HB.out)⟩⟩
    · replace c6 := Bool.eq_false_iff.mpr c6
      subst c6
      have H1 : (verditerlaw06_weighCases.j0 k a0 l1 l2 (decide ((l2.length : Int) > 100))) = some r := by rw [if_neg (show ¬ (false = true) by decide)] at H; exact H
      clear H
      have H := H1
      clear H1
      have H' := Aside0.mk H
      clear H
      go_wp2_with (first | ((with_reducible refine gate_callee (f := 43) rfl ?_); refine goesL_ (some 14) rfl rfl Try.func43 (by kernel_rfl) rfl #[.slice A1 l1.length c1] rfl (by (try simp only [List.map_toArray, List.map_cons, List.map_nil]); first | done | rfl | (simp only [List.length_drop, List.length_take]; rfl)) ?_; (with_reducible refine (verditerlaw06_Long.calls k _ _ l1 false _ ?side1 ?side2 A5.out).mono ?_); (case side1 => repeat (first | exact (Kd.C_below HR1.out HB.out) | (with_reducible refine Kd.C_alloc ?_ _) | (with_reducible refine Kd.C_drewN ?_ _) | (with_reducible refine Kd.C_drew ?_))); (case side2 => exact HC1.out); rintro e w' ⟨rfl, ⟨nd, rfl⟩⟩; refine ⟨_, rfl, ?_⟩))
      go_meet
      case rel => exact ⟨_, (decide ((l2.length : Int) > 100)), (by first | rfl | (simp; done) | (simp [*]; done)), H', ⟨by first | omega | exact Nat.le_refl _⟩, ⟨by repeat (first | (with_reducible first | exact HB.out | apply below_alloc | apply pw_below_drewN | apply below_drew1) | exact HB.out)⟩⟩
  case rest =>
    clear HC4
    try clear c1
    try clear c2
    try clear p2
    try clear c3
    try clear c4
    try clear c6
    obtain ⟨kq, x19_3, rfl, HA, HJ3, HB⟩ := hcut
    cases kq with
    | zero => exact absurd HA.out (by simp [verditerlaw06_weighCases.j0])
    | succ kj3 =>
      have H := HA.out
      clear HA
      simp only [verditerlaw06_weighCases.j0] at H
      by_cases c7 : x19_3 = true
      · subst c7
        have H1 : ((verditerlaw06_known.f kj3).bind fun t481 => (some t481)) = some r := by rw [if_pos rfl] at H; exact H
        clear H
        have H := H1
        clear H1
        replace H := Option.bind_eq_some_iff.mp H
        obtain ⟨t481, A80, H⟩ := H
        replace H : (some t481) = some r := H
        have A8 := Aside0.mk A80
        clear A80
        obtain rfl := Option.some.inj H
        go_wp2_with (first | ((with_reducible refine gate_callee (f := 25) rfl ?_); refine goesL_ (some 20) rfl rfl Try.func25 (by kernel_rfl) rfl #[] rfl (by (try simp only [List.map_toArray, List.map_cons, List.map_nil]); first | done | rfl | (simp only [List.length_drop, List.length_take]; rfl)) ?_; (with_reducible refine (verditerlaw06_known.calls kj3  t481 _ A8.out).mono ?_); rintro e w9 ⟨rfl, hb⟩; refine ⟨_, rfl, ?_⟩; have n0_ := Aside0.mk (below_step (by repeat (first | (with_reducible first | exact HB.out | apply below_alloc | apply pw_below_drewN | apply below_drew1) | exact HB.out)) hb); clear HB; have HB := n0_; clear n0_; (try clear hb); (try clear hb2); (try clear hk); (try clear hi)))
        go_ret
        exact ⟨by first | rfl | (simp [errW_none, errW_some] <;> rfl) | (simp [*, errW_none, errW_some] <;> rfl), by repeat (first | (with_reducible first | exact HB.out | apply below_alloc | apply pw_below_drewN | apply below_drew1) | exact HB.out)⟩
      · replace c7 := Bool.eq_false_iff.mpr c7
        subst c7
        have H1 : ((verditerref06_Cases.f kj3 a0 l1 l2).bind fun bt482 => ((weigh_Cases.f a0 l1 l2).bind fun bt487 => (if bt487.2.2 = bt482.2.2 then (if (bt487.2.1 == bt482.2.1) = true then ((verditerref06_SameCases.f kj3 bt487.1 bt482.1).bind fun t492 => (if t492 = true then ((verditerlaw06_known.f kj3).bind fun t493 => (some t493)) else (some false))) else (some false)) else (some false)))) = some r := by rw [if_neg (show ¬ (false = true) by decide)] at H; exact H
        clear H
        have H := H1
        clear H1
        replace H := Option.bind_eq_some_iff.mp H
        obtain ⟨⟨t482, t483, t484⟩, A100, H⟩ := H
        replace H : ((weigh_Cases.f a0 l1 l2).bind fun bt487 => (if bt487.2.2 = t484 then (if (bt487.2.1 == t483) = true then ((verditerref06_SameCases.f kj3 bt487.1 t482).bind fun t492 => (if t492 = true then ((verditerlaw06_known.f kj3).bind fun t493 => (some t493)) else (some false))) else (some false)) else (some false))) = some r := H
        have A10 := Aside0.mk A100
        clear A100
        replace H := Option.bind_eq_some_iff.mp H
        obtain ⟨⟨t487, t488, t489⟩, A110, H⟩ := H
        replace H : (if t489 = t484 then (if (t488 == t483) = true then ((verditerref06_SameCases.f kj3 t487 t482).bind fun t492 => (if t492 = true then ((verditerlaw06_known.f kj3).bind fun t493 => (some t493)) else (some false))) else (some false)) else (some false)) = some r := H
        have A11 := Aside0.mk A110
        clear A110
        by_cases c12 : t489 = t484
        · rw [if_pos c12] at H
          have c12b0 : (t489 == t484) = true := beq_iff_eq.mpr c12
          have c12b1 : (t489 != t484) = false := bne_eq_false_iff_eq.mpr c12
          clear c12
          by_cases c13 : (t488 == t483) = true
          · rw [if_pos c13] at H
            have c13b0 : (t488 == t483) = true := c13
            (try (have c13b1 : decide (t488 = t483) = true := by simpa using c13))
            (try (have c13b2 : (t488 == t483) = true := by simpa using c13))
            clear c13
            replace H := Option.bind_eq_some_iff.mp H
            obtain ⟨t492, A140, H⟩ := H
            replace H : (if t492 = true then ((verditerlaw06_known.f kj3).bind fun t493 => (some t493)) else (some false)) = some r := H
            have A14 := Aside0.mk A140
            clear A140
            by_cases c15 : t492 = true
            · subst c15
              have H1 : ((verditerlaw06_known.f kj3).bind fun t493 => (some t493)) = some r := by rw [if_pos rfl] at H; exact H
              clear H
              have H := H1
              clear H1
              replace H := Option.bind_eq_some_iff.mp H
              obtain ⟨t493, A160, H⟩ := H
              replace H : (some t493) = some r := H
              have A16 := Aside0.mk A160
              clear A160
              obtain rfl := Option.some.inj H
              go_wp2_with (first | ((with_reducible refine gate_callee (f := 63) rfl ?_); refine goesL_ (some 25) rfl rfl Try.func63 (by kernel_rfl) rfl #[.int .i64 a0, .slice A1 l1.length c1, .slice A2 l2.length c2] rfl (by (try simp only [List.map_toArray, List.map_cons, List.map_nil]); first | done | rfl | (simp only [List.length_drop, List.length_take]; rfl)) ?_; (with_reducible refine (verditerref06_Cases.calls kj3 a0 _ _ l1 _ _ l2 t482 t483 t484 _ ?side1 ?side2 ?side3 ?side4 A10.out).mono ?_); (case side1 => repeat (first | exact (Kd.C_below HR1.out HB.out) | (with_reducible refine Kd.C_alloc ?_ _) | (with_reducible refine Kd.C_drewN ?_ _) | (with_reducible refine Kd.C_drew ?_))); (case side2 => exact HC1.out); (case side3 => repeat (first | exact (Kd.C_below HR2.out HB.out) | (with_reducible refine Kd.C_alloc ?_ _) | (with_reducible refine Kd.C_drewN ?_ _) | (with_reducible refine Kd.C_drew ?_))); (case side4 => exact HC2.out); rintro e w17 ⟨v485, rfl, ho0, hb⟩; refine ⟨_, rfl, ?_⟩; have n0_ := Aside0.mk (Kd.R_lower ho0 (below_size (by repeat (first | (with_reducible first | exact HB.out | apply below_alloc | apply pw_below_drewN | apply below_drew1) | exact HB.out)))); have n1_ := Aside0.mk (below_step (by repeat (first | (with_reducible first | exact HB.out | apply below_alloc | apply pw_below_drewN | apply below_drew1) | exact HB.out)) hb); clear HB; have HO486 := n0_; have HB := n1_; clear n0_ n1_; (try clear hb); (try clear hb2); (try clear hk); (try clear hi); (try clear ho0)) | ((with_reducible refine gate_callee (f := 64) rfl ?_); refine goesL_ (some 33) rfl rfl Try.func64 (by kernel_rfl) rfl #[.int .i64 a0, .slice A1 l1.length c1, .slice A2 l2.length c2] rfl (by (try simp only [List.map_toArray, List.map_cons, List.map_nil]); first | done | rfl | (simp only [List.length_drop, List.length_take]; rfl)) ?_; (with_reducible refine (weigh_Cases.calls a0 _ _ l1 _ _ l2 t487 t488 t489 _ ?side1 ?side2 ?side3 ?side4 A11.out).mono ?_); (case side1 => repeat (first | exact (Kd.C_below HR1.out HB.out) | (with_reducible refine Kd.C_alloc ?_ _) | (with_reducible refine Kd.C_drewN ?_ _) | (with_reducible refine Kd.C_drew ?_))); (case side2 => exact HC1.out); (case side3 => repeat (first | exact (Kd.C_below HR2.out HB.out) | (with_reducible refine Kd.C_alloc ?_ _) | (with_reducible refine Kd.C_drewN ?_ _) | (with_reducible refine Kd.C_drew ?_))); (case side4 => exact HC2.out); rintro e w18 ⟨v490, rfl, ho0, hb⟩; refine ⟨_, rfl, ?_⟩; have n0_ := Aside0.mk (Kd.R_elder' (by (with_reducible repeat (first | apply Kd.R_alloc | apply Kd.R_drewN | apply Kd.R_drew)); exact HO486.out) (Kd.R_base ho0) hb); have n1_ := Aside0.mk (Kd.R_lower (Kd.R_new' ho0 (Kd.R_lt (by (with_reducible repeat (first | apply Kd.R_alloc | apply Kd.R_drewN | apply Kd.R_drew)); exact HO486.out))) (below_size (by repeat (first | (with_reducible first | exact HB.out | apply below_alloc | apply pw_below_drewN | apply below_drew1) | exact HB.out)))); have n2_ := Aside0.mk (below_step (by repeat (first | (with_reducible first | exact HB.out | apply below_alloc | apply pw_below_drewN | apply below_drew1) | exact HB.out)) hb); clear HO486; clear HB; have HO486 := n0_; have HO491 := n1_; have HB := n2_; clear n0_ n1_ n2_; (try clear hb); (try clear hb2); (try clear hk); (try clear hi); (try clear ho0); obtain ⟨Ao19, co19, eo19⟩ := Kd.R_slice HO491.out; subst eo19; obtain ⟨Ao20, co20, eo20⟩ := Kd.R_slice HO486.out; subst eo20) | (go_at_call 65; (with_reducible refine (verditerref06_SameCases.calls kj3 _ _ t487 _ _ t482 true _ ?side1 ?side2 ?side3 ?side4 A14.out).mono ?_); (case side1 => repeat (first | exact (Kd.R_reads' HO491.out).2.2 | (with_reducible refine Kd.C_alloc ?_ _) | (with_reducible refine Kd.C_drewN ?_ _) | (with_reducible refine Kd.C_drew ?_))); (case side2 => exact (Kd.R_reads' HO491.out).2.1); (case side3 => repeat (first | exact (Kd.R_reads' HO486.out).2.2 | (with_reducible refine Kd.C_alloc ?_ _) | (with_reducible refine Kd.C_drewN ?_ _) | (with_reducible refine Kd.C_drew ?_))); (case side4 => exact (Kd.R_reads' HO486.out).2.1); rintro e w' ⟨rfl, ⟨nd, rfl⟩⟩) | (go_at_call 25; (with_reducible refine (verditerlaw06_known.calls kj3  t493 _ A16.out).mono ?_); rintro e w21 ⟨rfl, hb⟩; have n0_ := Aside0.mk (Kd.R_below (by (with_reducible repeat (first | apply Kd.R_alloc | apply Kd.R_drewN | apply Kd.R_drew)); exact HO486.out) hb); have n1_ := Aside0.mk (Kd.R_below (by (with_reducible repeat (first | apply Kd.R_alloc | apply Kd.R_drewN | apply Kd.R_drew)); exact HO491.out) hb); have n2_ := Aside0.mk (below_step (by repeat (first | (with_reducible first | exact HB.out | apply below_alloc | apply pw_below_drewN | apply below_drew1) | exact HB.out)) hb); clear HO486; clear HO491; clear HB; have HO486 := n0_; have HO491 := n1_; have HB := n2_; clear n0_ n1_ n2_; (try clear hb); (try clear hb2); (try clear hk); (try clear hi)))
              go_ret
              exact ⟨by first | rfl | (simp [errW_none, errW_some] <;> rfl) | (simp [*, errW_none, errW_some] <;> rfl), by repeat (first | (with_reducible first | exact HB.out | apply below_alloc | apply pw_below_drewN | apply below_drew1) | exact HB.out)⟩
            · replace c15 := Bool.eq_false_iff.mpr c15
              subst c15
              have H1 : (some false) = some r := by rw [if_neg (show ¬ (false = true) by decide)] at H; exact H
              clear H
              have H := H1
              clear H1
              obtain rfl := Option.some.inj H
              go_wp2_with (first | ((with_reducible refine gate_callee (f := 63) rfl ?_); refine goesL_ (some 25) rfl rfl Try.func63 (by kernel_rfl) rfl #[.int .i64 a0, .slice A1 l1.length c1, .slice A2 l2.length c2] rfl (by (try simp only [List.map_toArray, List.map_cons, List.map_nil]); first | done | rfl | (simp only [List.length_drop, List.length_take]; rfl)) ?_; (with_reducible refine (verditerref06_Cases.calls kj3 a0 _ _ l1 _ _ l2 t482 t483 t484 _ ?side1 ?side2 ?side3 ?side4 A10.out).mono ?_); (case side1 => repeat (first | exact (Kd.C_below HR1.out HB.out) | (with_reducible refine Kd.C_alloc ?_ _) | (with_reducible refine Kd.C_drewN ?_ _) | (with_reducible refine Kd.C_drew ?_))); (case side2 => exact HC1.out); (case side3 => repeat (first | exact (Kd.C_below HR2.out HB.out) | (with_reducible refine Kd.C_alloc ?_ _) | (with_reducible refine Kd.C_drewN ?_ _) | (with_reducible refine Kd.C_drew ?_))); (case side4 => exact HC2.out); rintro e w22 ⟨v485, rfl, ho0, hb⟩; refine ⟨_, rfl, ?_⟩; have n0_ := Aside0.mk (Kd.R_lower ho0 (below_size (by repeat (first | (with_reducible first | exact HB.out | apply below_alloc | apply pw_below_drewN | apply below_drew1) | exact HB.out)))); have n1_ := Aside0.mk (below_step (by repeat (first | (with_reducible first | exact HB.out | apply below_alloc | apply pw_below_drewN | apply below_drew1) | exact HB.out)) hb); clear HB; have HO486 := n0_; have HB := n1_; clear n0_ n1_; (try clear hb); (try clear hb2); (try clear hk); (try clear hi); (try clear ho0)) | ((with_reducible refine gate_callee (f := 64) rfl ?_); refine goesL_ (some 33) rfl rfl Try.func64 (by kernel_rfl) rfl #[.int .i64 a0, .slice A1 l1.length c1, .slice A2 l2.length c2] rfl (by (try simp only [List.map_toArray, List.map_cons, List.map_nil]); first | done | rfl | (simp only [List.length_drop, List.length_take]; rfl)) ?_; (with_reducible refine (weigh_Cases.calls a0 _ _ l1 _ _ l2 t487 t488 t489 _ ?side1 ?side2 ?side3 ?side4 A11.out).mono ?_); (case side1 => repeat (first | exact (Kd.C_below HR1.out HB.out) | (with_reducible refine Kd.C_alloc ?_ _) | (with_reducible refine Kd.C_drewN ?_ _) | (with_reducible refine Kd.C_drew ?_))); (case side2 => exact HC1.out); (case side3 => repeat (first | exact (Kd.C_below HR2.out HB.out) | (with_reducible refine Kd.C_alloc ?_ _) | (with_reducible refine Kd.C_drewN ?_ _) | (with_reducible refine Kd.C_drew ?_))); (case side4 => exact HC2.out); rintro e w23 ⟨v490, rfl, ho0, hb⟩; refine ⟨_, rfl, ?_⟩; have n0_ := Aside0.mk (Kd.R_elder' (by (with_reducible repeat (first | apply Kd.R_alloc | apply Kd.R_drewN | apply Kd.R_drew)); exact HO486.out) (Kd.R_base ho0) hb); have n1_ := Aside0.mk (Kd.R_lower (Kd.R_new' ho0 (Kd.R_lt (by (with_reducible repeat (first | apply Kd.R_alloc | apply Kd.R_drewN | apply Kd.R_drew)); exact HO486.out))) (below_size (by repeat (first | (with_reducible first | exact HB.out | apply below_alloc | apply pw_below_drewN | apply below_drew1) | exact HB.out)))); have n2_ := Aside0.mk (below_step (by repeat (first | (with_reducible first | exact HB.out | apply below_alloc | apply pw_below_drewN | apply below_drew1) | exact HB.out)) hb); clear HO486; clear HB; have HO486 := n0_; have HO491 := n1_; have HB := n2_; clear n0_ n1_ n2_; (try clear hb); (try clear hb2); (try clear hk); (try clear hi); (try clear ho0); obtain ⟨Ao24, co24, eo24⟩ := Kd.R_slice HO491.out; subst eo24; obtain ⟨Ao25, co25, eo25⟩ := Kd.R_slice HO486.out; subst eo25) | (go_at_call 65; (with_reducible refine (verditerref06_SameCases.calls kj3 _ _ t487 _ _ t482 false _ ?side1 ?side2 ?side3 ?side4 A14.out).mono ?_); (case side1 => repeat (first | exact (Kd.R_reads' HO491.out).2.2 | (with_reducible refine Kd.C_alloc ?_ _) | (with_reducible refine Kd.C_drewN ?_ _) | (with_reducible refine Kd.C_drew ?_))); (case side2 => exact (Kd.R_reads' HO491.out).2.1); (case side3 => repeat (first | exact (Kd.R_reads' HO486.out).2.2 | (with_reducible refine Kd.C_alloc ?_ _) | (with_reducible refine Kd.C_drewN ?_ _) | (with_reducible refine Kd.C_drew ?_))); (case side4 => exact (Kd.R_reads' HO486.out).2.1); rintro e w' ⟨rfl, ⟨nd, rfl⟩⟩))
              go_ret
              exact ⟨by first | rfl | (simp [errW_none, errW_some] <;> rfl) | (simp [*, errW_none, errW_some] <;> rfl), by repeat (first | (with_reducible first | exact HB.out | apply below_alloc | apply pw_below_drewN | apply below_drew1) | exact HB.out)⟩
          · rw [if_neg c13] at H
            have c13b0 : (t488 == t483) = false := by simpa using c13
            (try (have c13b1 : decide (t488 = t483) = false := by simpa using c13))
            (try (have c13b2 : (t488 == t483) = false := by simpa using c13))
            (try (have c13b3 : ¬ (t488 = t483) := by simpa using c13))
            clear c13
            obtain rfl := Option.some.inj H
            go_wp2_with (first | ((with_reducible refine gate_callee (f := 63) rfl ?_); refine goesL_ (some 25) rfl rfl Try.func63 (by kernel_rfl) rfl #[.int .i64 a0, .slice A1 l1.length c1, .slice A2 l2.length c2] rfl (by (try simp only [List.map_toArray, List.map_cons, List.map_nil]); first | done | rfl | (simp only [List.length_drop, List.length_take]; rfl)) ?_; (with_reducible refine (verditerref06_Cases.calls kj3 a0 _ _ l1 _ _ l2 t482 t483 t484 _ ?side1 ?side2 ?side3 ?side4 A10.out).mono ?_); (case side1 => repeat (first | exact (Kd.C_below HR1.out HB.out) | (with_reducible refine Kd.C_alloc ?_ _) | (with_reducible refine Kd.C_drewN ?_ _) | (with_reducible refine Kd.C_drew ?_))); (case side2 => exact HC1.out); (case side3 => repeat (first | exact (Kd.C_below HR2.out HB.out) | (with_reducible refine Kd.C_alloc ?_ _) | (with_reducible refine Kd.C_drewN ?_ _) | (with_reducible refine Kd.C_drew ?_))); (case side4 => exact HC2.out); rintro e w26 ⟨v485, rfl, ho0, hb⟩; refine ⟨_, rfl, ?_⟩; have n0_ := Aside0.mk (Kd.R_lower ho0 (below_size (by repeat (first | (with_reducible first | exact HB.out | apply below_alloc | apply pw_below_drewN | apply below_drew1) | exact HB.out)))); have n1_ := Aside0.mk (below_step (by repeat (first | (with_reducible first | exact HB.out | apply below_alloc | apply pw_below_drewN | apply below_drew1) | exact HB.out)) hb); clear HB; have HO486 := n0_; have HB := n1_; clear n0_ n1_; (try clear hb); (try clear hb2); (try clear hk); (try clear hi); (try clear ho0)) | ((with_reducible refine gate_callee (f := 64) rfl ?_); refine goesL_ (some 33) rfl rfl Try.func64 (by kernel_rfl) rfl #[.int .i64 a0, .slice A1 l1.length c1, .slice A2 l2.length c2] rfl (by (try simp only [List.map_toArray, List.map_cons, List.map_nil]); first | done | rfl | (simp only [List.length_drop, List.length_take]; rfl)) ?_; (with_reducible refine (weigh_Cases.calls a0 _ _ l1 _ _ l2 t487 t488 t489 _ ?side1 ?side2 ?side3 ?side4 A11.out).mono ?_); (case side1 => repeat (first | exact (Kd.C_below HR1.out HB.out) | (with_reducible refine Kd.C_alloc ?_ _) | (with_reducible refine Kd.C_drewN ?_ _) | (with_reducible refine Kd.C_drew ?_))); (case side2 => exact HC1.out); (case side3 => repeat (first | exact (Kd.C_below HR2.out HB.out) | (with_reducible refine Kd.C_alloc ?_ _) | (with_reducible refine Kd.C_drewN ?_ _) | (with_reducible refine Kd.C_drew ?_))); (case side4 => exact HC2.out); rintro e w27 ⟨v490, rfl, ho0, hb⟩; refine ⟨_, rfl, ?_⟩; have n0_ := Aside0.mk (Kd.R_elder' (by (with_reducible repeat (first | apply Kd.R_alloc | apply Kd.R_drewN | apply Kd.R_drew)); exact HO486.out) (Kd.R_base ho0) hb); have n1_ := Aside0.mk (Kd.R_lower (Kd.R_new' ho0 (Kd.R_lt (by (with_reducible repeat (first | apply Kd.R_alloc | apply Kd.R_drewN | apply Kd.R_drew)); exact HO486.out))) (below_size (by repeat (first | (with_reducible first | exact HB.out | apply below_alloc | apply pw_below_drewN | apply below_drew1) | exact HB.out)))); have n2_ := Aside0.mk (below_step (by repeat (first | (with_reducible first | exact HB.out | apply below_alloc | apply pw_below_drewN | apply below_drew1) | exact HB.out)) hb); clear HO486; clear HB; have HO486 := n0_; have HO491 := n1_; have HB := n2_; clear n0_ n1_ n2_; (try clear hb); (try clear hb2); (try clear hk); (try clear hi); (try clear ho0)))
            go_ret
            exact ⟨by first | rfl | (simp [errW_none, errW_some] <;> rfl) | (simp [*, errW_none, errW_some] <;> rfl), by repeat (first | (with_reducible first | exact HB.out | apply below_alloc | apply pw_below_drewN | apply below_drew1) | exact HB.out)⟩
        · rw [if_neg c12] at H
          have c12b0 : (t489 == t484) = false := beq_eq_false_iff_ne.mpr c12
          have c12b1 : (t489 != t484) = true := bne_iff_ne.mpr c12
          obtain rfl := Option.some.inj H
          go_wp2_with (first | ((with_reducible refine gate_callee (f := 63) rfl ?_); refine goesL_ (some 25) rfl rfl Try.func63 (by kernel_rfl) rfl #[.int .i64 a0, .slice A1 l1.length c1, .slice A2 l2.length c2] rfl (by (try simp only [List.map_toArray, List.map_cons, List.map_nil]); first | done | rfl | (simp only [List.length_drop, List.length_take]; rfl)) ?_; (with_reducible refine (verditerref06_Cases.calls kj3 a0 _ _ l1 _ _ l2 t482 t483 t484 _ ?side1 ?side2 ?side3 ?side4 A10.out).mono ?_); (case side1 => repeat (first | exact (Kd.C_below HR1.out HB.out) | (with_reducible refine Kd.C_alloc ?_ _) | (with_reducible refine Kd.C_drewN ?_ _) | (with_reducible refine Kd.C_drew ?_))); (case side2 => exact HC1.out); (case side3 => repeat (first | exact (Kd.C_below HR2.out HB.out) | (with_reducible refine Kd.C_alloc ?_ _) | (with_reducible refine Kd.C_drewN ?_ _) | (with_reducible refine Kd.C_drew ?_))); (case side4 => exact HC2.out); rintro e w28 ⟨v485, rfl, ho0, hb⟩; refine ⟨_, rfl, ?_⟩; have n0_ := Aside0.mk (Kd.R_lower ho0 (below_size (by repeat (first | (with_reducible first | exact HB.out | apply below_alloc | apply pw_below_drewN | apply below_drew1) | exact HB.out)))); have n1_ := Aside0.mk (below_step (by repeat (first | (with_reducible first | exact HB.out | apply below_alloc | apply pw_below_drewN | apply below_drew1) | exact HB.out)) hb); clear HB; have HO486 := n0_; have HB := n1_; clear n0_ n1_; (try clear hb); (try clear hb2); (try clear hk); (try clear hi); (try clear ho0)) | ((with_reducible refine gate_callee (f := 64) rfl ?_); refine goesL_ (some 33) rfl rfl Try.func64 (by kernel_rfl) rfl #[.int .i64 a0, .slice A1 l1.length c1, .slice A2 l2.length c2] rfl (by (try simp only [List.map_toArray, List.map_cons, List.map_nil]); first | done | rfl | (simp only [List.length_drop, List.length_take]; rfl)) ?_; (with_reducible refine (weigh_Cases.calls a0 _ _ l1 _ _ l2 t487 t488 t489 _ ?side1 ?side2 ?side3 ?side4 A11.out).mono ?_); (case side1 => repeat (first | exact (Kd.C_below HR1.out HB.out) | (with_reducible refine Kd.C_alloc ?_ _) | (with_reducible refine Kd.C_drewN ?_ _) | (with_reducible refine Kd.C_drew ?_))); (case side2 => exact HC1.out); (case side3 => repeat (first | exact (Kd.C_below HR2.out HB.out) | (with_reducible refine Kd.C_alloc ?_ _) | (with_reducible refine Kd.C_drewN ?_ _) | (with_reducible refine Kd.C_drew ?_))); (case side4 => exact HC2.out); rintro e w29 ⟨v490, rfl, ho0, hb⟩; refine ⟨_, rfl, ?_⟩; have n0_ := Aside0.mk (Kd.R_elder' (by (with_reducible repeat (first | apply Kd.R_alloc | apply Kd.R_drewN | apply Kd.R_drew)); exact HO486.out) (Kd.R_base ho0) hb); have n1_ := Aside0.mk (Kd.R_lower (Kd.R_new' ho0 (Kd.R_lt (by (with_reducible repeat (first | apply Kd.R_alloc | apply Kd.R_drewN | apply Kd.R_drew)); exact HO486.out))) (below_size (by repeat (first | (with_reducible first | exact HB.out | apply below_alloc | apply pw_below_drewN | apply below_drew1) | exact HB.out)))); have n2_ := Aside0.mk (below_step (by repeat (first | (with_reducible first | exact HB.out | apply below_alloc | apply pw_below_drewN | apply below_drew1) | exact HB.out)) hb); clear HO486; clear HB; have HO486 := n0_; have HO491 := n1_; have HB := n2_; clear n0_ n1_ n2_; (try clear hb); (try clear hb2); (try clear hk); (try clear hi); (try clear ho0)))
          go_ret
          exact ⟨by first | rfl | (simp [errW_none, errW_some] <;> rfl) | (simp [*, errW_none, errW_some] <;> rfl), by repeat (first | (with_reducible first | exact HB.out | apply below_alloc | apply pw_below_drewN | apply below_drew1) | exact HB.out)⟩

end Go.Proofs.Ytdbeochifofdoaa.X
end

section
/-! The law WeighCases: own := KeepWeighings(plan); what it states; KeptWeighings(own, plan). -/
namespace Go.Proofs.Ytdbeochifofdoaa.X
open Go.RowKit Go.Proofs.YtdbeochifofdoaaW.PrintWords Go.Proofs.YtdbeochifofdoaaW.PrintLast Go.Proofs.YtdbeochifofdoaaW.PrintMore
set_option linter.unusedVariables false
set_option linter.unusedSimpArgs false

set_option maxHeartbeats 4000000 in
set_option maxRecDepth 100000 in
theorem weighCases_calls (k : Nat) (a0 : Int) (A : Option Addr) (l : List S53) (ys : List S53) (A2 : Option Addr) (l2 ys2 : List Int) (w : World) (hl : Kd.C k53 w A l.length l) (hc : l.length ≤ ys.length) (hF : FullW w A ys) (hn : ys.length ≤ 2932031007402)
    (hs : ∀ y, y ∈ ys → y.f0.length ≤ 17592186044416 ∧ y.f1.length ≤ 17592186044416) (hl2 : Kd.C (Kd.int .i64) w A2 l2.length l2) (hc2 : l2.length ≤ ys2.length) (hF2 : Kd.C (Kd.int .i64) w A2 ys2.length ys2) (hn2 : ys2.length ≤ 17592186044416) (h : verditerlaw06_weighCases.f k a0 l l2 = some true) :
    Calls Try.prog 11 #[.int .i64 a0, .slice A l.length ys.length, .slice A2 l2.length ys2.length] w fun e w' => e = .returned (.bool true) ∧ Below w.heap.size w w' := by
  have HL := Aside0.mk hl
  have HF := Aside0.mk hF
  have HS := Aside0.mk hs
  have H := Aside0.mk h
  clear hl hF hs h
  have HL2 := Aside0.mk hl2
  have HF2 := Aside0.mk hF2
  clear hl2 hF2
  go_enter Try.func11, Try.ntmps11
  go_wp2_with fail
  refine (keepW_calls A l.length ys w HF.out hc hn HS.out).mono ?_
  rintro e w1 ⟨v, rfl, hN, hB1⟩
  obtain ⟨Ao, co, rfl⟩ := Kd.N_slice hN
  have HO := Aside0.mk (Kd.N_reads' hN).2.2
  have HB1 := Aside0.mk hB1
  clear hN hB1
  go_wp2_with fail
  refine (keepInts_calls A2 l2.length ys2 _ (Kd.C_below HF2.out HB1.out) hc2 hn2).mono ?_
  rintro e w4 ⟨v, rfl, hN, hB4⟩
  obtain ⟨Ap, cp, rfl⟩ := Kd.R_slice hN
  have HO2 := Aside0.mk (Kd.R_reads' hN).2.2
  have HO1 := Aside0.mk (Kd.C_below HO.out hB4)
  have HB4 := Aside0.mk (HB1.out.trans (hB4.mono HB1.out.size))
  clear hN hB4 HO HB1
  have HO := HO1
  have HB1 := HB4
  clear HO1 HB4
  go_wp2_with fail
  refine (verditerlaw06_weighCases.calls k a0 A ys.length l A2 ys2.length l2 true _ (Kd.C_below HL.out HB1.out) hc (Kd.C_below HL2.out HB1.out) hc2 H.out).mono ?_
  rintro e w2 ⟨rfl, hB2⟩
  have HB2 := Aside0.mk hB2
  have HB := Aside0.mk (HB1.out.trans (hB2.mono HB1.out.size))
  clear hB2
  go_wp2_with fail
  refine (keptW_calls Ao co A l.length ys _ (Kd.C_below HO.out HB2.out) (HF.out.below HB.out) hc).mono ?_
  rintro e w3 ⟨rfl, hB3⟩
  have HB3 := Aside0.mk (HB.out.trans (hB3.mono HB.out.size))
  have HP := Aside0.mk (Kd.C_below (Kd.C_below HO2.out HB2.out) hB3)
  clear hB3
  go_wp2_with fail
  refine (keptInts_calls Ap cp A2 l2.length ys2 _ HP.out (Kd.C_below HF2.out HB3.out) hc2).mono ?_
  rintro e w5 ⟨rfl, hB5⟩
  have HB5 := Aside0.mk (HB3.out.trans (hB5.mono HB3.out.size))
  clear hB5 HB3
  have HB3 := HB5
  go_wp2
  go_ret
  exact ⟨rfl, HB3.out⟩
end Go.Proofs.Ytdbeochifofdoaa.X
end

section
/-! A plan that comes in: what its cells hold, up to its length and up to its capacity. -/
namespace Go.Proofs.Ytdbeochifofdoaa.X
open Go.ChangeShapes Go.WideShapes Go.RowKit Go.Proofs.YtdbeochifofdoaaW.PrintWords Go.Proofs.YtdbeochifofdoaaW.PrintLast Go.Proofs.YtdbeochifofdoaaW.PrintMore
set_option linter.unusedVariables false
set_option linter.unusedSimpArgs false

theorem list_of {α : Type} (d : α) (n : Nat) (P : Nat → α → Prop) (h : ∀ i, i < n → ∃ y, P i y) : ∃ ys : List α, ys.length = n ∧ ∀ i, i < n → P i (ys.getD i d) := by
  classical
  refine ⟨(List.range n).map (fun i => if h' : i < n then (h i h').choose else d), by simp, fun i hi => ?_⟩
  have : ((List.range n).map (fun i => if h' : i < n then (h i h').choose else d)).getD i d = (h i hi).choose := by simp [List.getD_eq_getElem?_getD, hi]
  rw [this]
  exact (h i hi).choose_spec
theorem C_take {α : Type} {d : Kd α} {w : World} {A : Option Addr} {n : Nat} {xs : List α} (h : d.C w A n xs) (m : Nat) (hm : m ≤ n) : d.C w A m (xs.take m) := by
  obtain ⟨h1, h2, h3⟩ := h
  refine ⟨by rw [List.length_take]; omega, by omega, fun h0 => ?_⟩
  obtain ⟨ad, e, hc⟩ := h3 (by omega)
  refine ⟨ad, e, fun j p hj => hc j p ?_⟩
  rw [List.getElem?_take] at hj
  split at hj
  · exact hj
  · cases hj
theorem weights_mem_all {H : Type} {P : Program} {t : TypeId} : ∀ {ds : List (DataW H)} {d : DataW H}, d ∈ ds → ∀ n ∈ d.weights P t, n ∈ DataW.weightsAll P t ds
  | d0 :: ds, d, hd, n, hn => by
    rw [DataW.weightsAll, List.mem_append]
    rcases List.mem_cons.1 hd with rfl | hd
    · exact .inl hn
    · exact .inr (weights_mem_all hd n hn)
  | [], _, hd, _, _ => by cases hd
theorem o_bytes3 : Try.prog.bytesOf 3 = 8 := by kernel_rfl
theorem o_bytes53 : Try.prog.bytesOf 53 = 48 := by kernel_rfl
theorem o_cells3 : Try.prog.cellsOf 3 = 1 := by kernel_rfl
theorem o_cells43 : Try.prog.cellsOf 43 = 1 := by kernel_rfl
theorem o_cells53 : Try.prog.cellsOf 53 = 2 := by kernel_rfl
/-- A list of numbers that comes in. -/
theorem open_intsK {H : Type} {enc : TypeId × Value → H} {W : World} {t : TypeId} {fuel : Nat} {cs : List Value} {x : DataW H × List MemPlace} (ht : Try.prog.underlying t = some (.slice 3))
    (h : DataW.trod enc Try.prog W 0 (fun _ => true) true fuel t cs = some x) (hsz : ∀ n ∈ x.1.weights Try.prog t, n ≤ reachBytes) :
    ∃ (A : Option Addr) (n : Nat) (ys : List Int), cs = [.slice A n ys.length] ∧ n ≤ ys.length ∧ ys.length ≤ 17592186044416 ∧ Kd.C (Kd.int .i64) W A ys.length ys ∧ ∀ z, z ∈ ys → (Lit.int .i64 z).wf = true := by
  rcases open_ints ht Try.underlying3 o_cells3 h with ⟨rfl, rfl⟩ | ⟨a, len, cap, zs, rfl, _, hl, hm, hz, rfl, hcell, hwz⟩
  · exact ⟨none, 0, [], rfl, Nat.le_refl _, by simp, ⟨rfl, by simp, fun h => absurd h (by simp)⟩, fun z hz => by cases hz⟩
  · rw [if_pos rfl] at hz
    subst hz
    have hw : zs.length * 8 ≤ reachBytes := by
      have := hsz ((lits (H := H) .i64 (zs.take len) ++ lits (H := H) .i64 (zs.drop len)).length * Try.prog.bytesOf 3) (by simp [DataW.weights, ht])
      rw [o_bytes3] at this
      simpa [lits, Nat.min_eq_left hl, Nat.add_sub_cancel' hl] using this
    unfold reachBytes at hw
    refine ⟨some a, len, zs, rfl, hl, by omega, Kd.C_of_reads (d := (0 : Int)) (h1 := fun _ => rfl) ⟨rfl, by omega, fun _ => ⟨a, rfl, fun j hj => hcell j hj⟩⟩, fun z hz => ?_⟩
    exact hwz z hz
/-- One weighing that comes in, and its lists' lengths. -/
structure PlanAt (W : World) (a : Addr) (z : S53 × Nat × Nat) : Prop where
  at_ : ∃ Al Ar, W.cell? a = some (.slice Al z.2.1 z.1.f0.length) ∧ W.cell? ⟨a.block, a.off + 1, none⟩ = some (.slice Ar z.2.2 z.1.f1.length) ∧ Kd.C (Kd.int .i64) W Al z.1.f0.length z.1.f0 ∧ Kd.C (Kd.int .i64) W Ar z.1.f1.length z.1.f1
  nl : z.2.1 ≤ z.1.f0.length
  nr : z.2.2 ≤ z.1.f1.length
  bl : z.1.f0.length ≤ 17592186044416
  br : z.1.f1.length ≤ 17592186044416
  il : ∀ x, x ∈ z.1.f0 → (Lit.int .i64 x).wf = true
  ir : ∀ x, x ∈ z.1.f1 → (Lit.int .i64 x).wf = true
theorem o_underlying43 : Try.prog.underlying 43 = some (.slice 3) := by kernel_rfl
theorem o_two_of {α : Type} {l : List α} (h : l.length = 2) : ∃ a b, l = [a, b] := by
  match l, h with
  | [a, b], _ => exact ⟨a, b, rfl⟩
theorem open_weighing {H : Type} {enc : TypeId × Value → H} {W : World} {a : Addr} {fuel : Nat} {cs : List Value} {x : DataW H × List MemPlace} (hc : W.cells? 0 a 2 = some cs)
    (h : DataW.trod enc Try.prog W 0 (fun _ => true) true fuel 53 cs = some x) (hsz : ∀ n ∈ x.1.weights Try.prog 53, n ≤ reachBytes) : ∃ z, PlanAt W a z := by
  obtain ⟨xs, n, _, rfl, hcs, hxs, hf⟩ := DataW.trod_struct Try.underlying53 h
  obtain ⟨_, h2, hcell⟩ := World.cells?_some hc
  obtain ⟨c0, c1, rfl⟩ : ∃ c0 c1, cs = [c0, c1] := o_two_of h2
  obtain ⟨x0, x1, rfl⟩ : ∃ c0 c1, xs = [c0, c1] := o_two_of hxs
  have e0 := hf 0 ⟨"Left", 43, 0, false, "", "", 0⟩ rfl
  have e1 := hf 1 ⟨"Right", 43, 1, false, "", "", 24⟩ rfl
  rw [o_cells43] at e0 e1
  simp only [DataW.weights, Try.underlying53, List.map_cons, List.map_nil, DataW.weightsEach, List.append_nil, List.mem_append] at hsz
  obtain ⟨A0, n0, ys0, q0, l0, b0, C0, i0⟩ := open_intsK o_underlying43 e0 (fun m hm => hsz m (.inl hm))
  obtain ⟨A1, n1, ys1, q1, l1, b1, C1, i1⟩ := open_intsK o_underlying43 e1 (fun m hm => hsz m (.inr hm))
  obtain rfl : c0 = .slice A0 n0 ys0.length := by simpa using q0
  obtain rfl : c1 = .slice A1 n1 ys1.length := by simpa using q1
  have k0 := hcell 0 (by omega)
  have k1 := hcell 1 (by omega)
  refine ⟨(⟨ys0, ys1⟩, n0, n1), ⟨A0, A1, ?_, ?_, C0, C1⟩, l0, l1, b0, b1, i0, i1⟩
  · simpa [Addr.add] using k0
  · simpa [Addr.add] using k1
theorem open_plan {H : Type} {enc : TypeId × Value → H} {W : World} {v : Value} {d : DataW H} {ps : List MemPlace} (h : DataW.Trod enc Try.prog W 0 (fun _ => true) true 22 v d ps) (hv : v.cells = #[v])
    (hsz : ∀ n ∈ d.weights Try.prog 22, n ≤ reachBytes) :
    ∃ (A : Option Addr) (l ys : List S53), v = .slice A l.length ys.length ∧ l.length ≤ ys.length ∧ ys.length ≤ 2932031007402 ∧ Kd.C k53 W A l.length l ∧ FullW W A ys ∧
      (∀ y, y ∈ ys → y.f0.length ≤ 17592186044416 ∧ y.f1.length ≤ 17592186044416) ∧ (∀ y, y ∈ l → (∀ x, x ∈ y.f0 → (Lit.int .i64 x).wf = true) ∧ (∀ x, x ∈ y.f1 → (Lit.int .i64 x).wf = true) ∧ y.f0.length ≤ 17592186044416 ∧ y.f1.length ≤ 17592186044416) := by
  obtain ⟨fuel, hf⟩ := h
  rw [hv] at hf
  rcases DataW.trod_slice Try.underlying22 hf with ⟨hcs, _⟩ | ⟨a, len, cap, elems, rest, n, _, hcs, hx, _, hl, hm, hlen, hel, hsp, _⟩
  · obtain rfl : v = .slice none 0 0 := by simpa using hcs
    exact ⟨none, [], [], rfl, Nat.le_refl _, by simp, ⟨rfl, by simp, fun h => absurd h (by simp)⟩, fun i hi => absurd hi (by simp), fun y hy => (by cases hy), fun y hy => (by cases hy)⟩
  obtain rfl : v = .slice (some a) len cap := by simpa using hcs
  obtain ⟨hrl, hre⟩ := hsp rfl
  obtain ⟨rfl, _⟩ := Prod.mk.inj hx
  simp only [DataW.weights, Try.underlying22, o_bytes53, List.mem_cons, List.mem_append] at hsz
  have hb : (len + (cap - len)) * 48 ≤ reachBytes := by
    have := hsz _ (.inl rfl)
    simpa [hlen, hrl] using this
  unfold reachBytes at hb
  rw [o_cells53] at hel hre
  have each : ∀ i, i < cap → ∃ z, PlanAt W (a.add (i * 2)) z := by
    intro i hi
    by_cases hil : i < len
    · have e := hel i hil
      rw [List.getElem?_eq_getElem (by omega)] at e
      obtain ⟨cs, hc, ht⟩ := Option.bind_eq_some_iff.1 e
      exact open_weighing hc ht (fun m hm => hsz m (.inr (.inl (weights_mem_all (List.mem_map.2 ⟨_, List.getElem_mem _, rfl⟩) m hm))))
    · have e := hre (i - len) (by omega)
      rw [List.getElem?_eq_getElem (by omega), show len + (i - len) = i by omega] at e
      obtain ⟨cs, hc, ht⟩ := Option.bind_eq_some_iff.1 e
      exact open_weighing hc ht (fun m hm => hsz m (.inr (.inr (weights_mem_all (List.mem_map.2 ⟨_, List.getElem_mem _, rfl⟩) m hm))))
  obtain ⟨zs, hzl, hz⟩ := list_of (z53, 0, 0) cap _ each
  have hget : ∀ i, i < cap → (zs.map (·.1)).getD i z53 = (zs.getD i (z53, 0, 0)).1 := by
    intro i hi
    simp [List.getD_eq_getElem?_getD, List.getElem?_map, List.getElem?_eq_getElem (show i < zs.length by omega)]
  have hmem : ∀ z, z ∈ zs → ∃ b, PlanAt W b z := by
    intro z h
    obtain ⟨i, hi, rfl⟩ := List.mem_iff_getElem.1 h
    have := hz i (by omega)
    rw [List.getD_eq_getElem?_getD, List.getElem?_eq_getElem hi] at this
    exact ⟨_, this⟩
  have hl2 : ((zs.take len).map fun z => (⟨z.1.f0.take z.2.1, z.1.f1.take z.2.2⟩ : S53)).length = len := by simp; omega
  have hl3 : (zs.map (·.1)).length = cap := by simp; omega
  refine ⟨some a, (zs.take len).map fun z => ⟨z.1.f0.take z.2.1, z.1.f1.take z.2.2⟩, zs.map (·.1), by rw [hl2, hl3], by omega, by omega, ?_, ?_, ?_, ?_⟩
  · refine ⟨rfl, by omega, fun h0 => ⟨a, rfl, fun j p hj => ?_⟩⟩
    rw [List.getElem?_map, Option.map_eq_some_iff] at hj
    obtain ⟨z, hj, rfl⟩ := hj
    rw [List.getElem?_take] at hj
    split at hj
    rotate_left
    · cases hj
    rename_i hjl
    have hp := hz j (by omega)
    rw [List.getD_eq_getElem?_getD, hj, Option.getD_some] at hp
    obtain ⟨Al, Ar, h0, h1, hC0, hC1⟩ := hp.at_
    have t0 := C_take hC0 _ hp.nl
    have t1 := C_take hC1 _ hp.nr
    have n0 : (z.1.f0.take z.2.1).length = z.2.1 := by rw [List.length_take]; have := hp.nl; omega
    have n1 : (z.1.f1.take z.2.2).length = z.2.2 := by rw [List.length_take]; have := hp.nr; omega
    refine ⟨[.slice Al (z.1.f0.take z.2.1).length z.1.f0.length, .slice Ar (z.1.f1.take z.2.2).length z.1.f1.length], rfl, k53_mk W ⟨z.1.f0.take z.2.1, z.1.f1.take z.2.2⟩ (by rw [n0]; exact hp.nl) (by rw [n0]; exact t0) (by rw [n1]; exact hp.nr) (by rw [n1]; exact t1), ?_⟩
    rw [n0, n1]
    intro i u hu
    match i with
    | 0 =>
      obtain rfl := Option.some.inj hu
      rw [show k53.sz = 2 from rfl, Nat.add_zero]
      exact h0
    | 1 =>
      obtain rfl := Option.some.inj hu
      rw [show k53.sz = 2 from rfl, add_field a (j * 2) 1 (by omega)]
      exact h1
    | i + 2 => cases hu
  · intro i hi
    rw [hl3] at hi
    have hp := hz i hi
    obtain ⟨Al, Ar, h0, h1, hC0, hC1⟩ := hp.at_
    rw [hget i hi]
    exact ⟨a, Al, _, Ar, _, rfl, h0, h1, hp.nl, hp.nr, hC0, hC1⟩
  · intro y hy
    obtain ⟨z, hz, rfl⟩ := List.mem_map.1 hy
    obtain ⟨b, hp⟩ := hmem z hz
    exact ⟨hp.bl, hp.br⟩
  · intro y hy
    obtain ⟨z, hz, rfl⟩ := List.mem_map.1 hy
    obtain ⟨b, hp⟩ := hmem z (List.mem_of_mem_take hz)
    have := hp.bl
    have := hp.br
    exact ⟨fun x hx => hp.il x (List.mem_of_mem_take hx), fun x hx => hp.ir x (List.mem_of_mem_take hx), by rw [List.length_take]; omega, by rw [List.length_take]; omega⟩
end Go.Proofs.Ytdbeochifofdoaa.X
end

section
/-! Cases that come in, and lists of numbers. -/
namespace Go.Proofs.Ytdbeochifofdoaa.X
open Go.ChangeShapes Go.WideShapes Go.RowKit Go.Proofs.YtdbeochifofdoaaW.PrintWords Go.Proofs.YtdbeochifofdoaaW.PrintLast Go.Proofs.YtdbeochifofdoaaW.PrintMore
set_option linter.unusedVariables false
set_option linter.unusedSimpArgs false

theorem open_case2 {H : Type} {enc : TypeId × Value → H} {W : World} {fuel : Nat} {cs : List Value} {x : DataW H × List MemPlace}
    (h : DataW.trod enc Try.prog W 0 (fun _ => true) true fuel 35 cs = some x) : ∃ a b : Int, cs = [.int .i64 a, .int .i64 b] ∧ (Lit.int .i64 a).wf = true ∧ (Lit.int .i64 b).wf = true := by
  obtain ⟨xs, n, _, rfl, hcs, hxs, hf⟩ := DataW.trod_struct Try.underlying35 h
  rw [show Try.prog.cellsOf 35 = 2 from by kernel_rfl] at hcs
  obtain ⟨c0, c1, rfl⟩ : ∃ c0 c1, cs = [c0, c1] := o_two_of hcs
  obtain ⟨x0, x1, rfl⟩ : ∃ c0 c1, xs = [c0, c1] := o_two_of hxs
  have e0 := hf 0 ⟨"Lot", 3, 0, false, "", "", 0⟩ rfl
  have e1 := hf 1 ⟨"Way", 3, 1, false, "", "", 8⟩ rfl
  rw [o_cells3] at e0 e1
  obtain ⟨a, q0, _, w0⟩ := DataW.trod_int Try.underlying3 e0
  obtain ⟨b, q1, _, w1⟩ := DataW.trod_int Try.underlying3 e1
  obtain rfl : c0 = .int .i64 a := by simpa using q0
  obtain rfl : c1 = .int .i64 b := by simpa using q1
  exact ⟨a, b, rfl, w0, w1⟩
set_option maxRecDepth 100000 in
theorem open_case {H : Type} {enc : TypeId × Value → H} {W : World} {r : Reach} {b0 : Nat} {v : Value} {d : DataW H} {ps : List MemPlace} (hv : Value.okWide Try.prog W r b0 35 v) (h : DataW.Trod enc Try.prog W 0 (fun _ => true) true 35 v d ps) :
    ∃ a b : Int, v = .agg #[.int .i64 a, .int .i64 b] ∧ (Lit.int .i64 a).wf = true ∧ (Lit.int .i64 b).wf = true := by
  obtain ⟨cs, rfl, _⟩ := okWide_struct Try.underlying35 hv
  obtain ⟨fuel, hf⟩ := h
  obtain ⟨a, b, e, w0, w1⟩ := open_case2 hf
  have e2 : cs = #[.int .i64 a, .int .i64 b] := Array.toList_inj.1 e
  exact ⟨a, b, by rw [e2], w0, w1⟩
theorem o_underlying38 : Try.prog.underlying 38 = Try.prog.underlying 37 := by kernel_rfl
set_option maxRecDepth 100000 in
theorem open_two {H : Type} {enc : TypeId × Value → H} {W : World} {r : Reach} {b0 : Nat} {v : Value} {d : DataW H} {ps : List MemPlace} (hv : Value.okWide Try.prog W r b0 38 v) (h : DataW.Trod enc Try.prog W 0 (fun _ => true) true 38 v d ps) :
    ∃ a b c d : Int, v = .agg #[.int .i64 a, .int .i64 b, .int .i64 c, .int .i64 d] := by
  have hu := o_underlying38.trans Try.underlying37
  obtain ⟨cs, rfl, _⟩ := okWide_struct hu hv
  obtain ⟨fuel, hf⟩ := h
  obtain ⟨xs, n, _, _, hcs, hxs, hf⟩ := DataW.trod_struct hu hf
  obtain ⟨x0, x1, rfl⟩ : ∃ c0 c1, xs = [c0, c1] := o_two_of hxs
  have e0 := hf 0 ⟨"C", 35, 0, false, "", "", 0⟩ rfl
  have e1 := hf 1 ⟨"D", 35, 2, false, "", "", 16⟩ rfl
  rw [show Try.prog.cellsOf 38 = 4 from by kernel_rfl] at hcs
  rw [show Try.prog.cellsOf 35 = 2 from by kernel_rfl] at e0 e1
  obtain ⟨a, b, q0, _, _⟩ := open_case2 e0
  obtain ⟨c, d, q1, _, _⟩ := open_case2 e1
  refine ⟨a, b, c, d, ?_⟩
  have hc : cs.toList = [.int .i64 a, .int .i64 b, .int .i64 c, .int .i64 d] := by
    have h1 : cs.toList.take 2 = [.int .i64 a, .int .i64 b] := q0
    have h2 : cs.toList.drop 2 = [.int .i64 c, .int .i64 d] := by
      have : (cs.toList.drop 2).take 2 = [.int .i64 c, .int .i64 d] := q1
      rwa [List.take_of_length_le (by rw [List.length_drop]; simp only [Value.cells] at hcs; omega)] at this
    rw [← List.take_append_drop 2 cs.toList, h1, h2]
    rfl
  have e2 : cs = #[.int .i64 a, .int .i64 b, .int .i64 c, .int .i64 d] := Array.toList_inj.1 hc
  rw [e2]
/-- A list of numbers that comes in, up to its length and up to its capacity. -/
theorem open_nums {H : Type} {enc : TypeId × Value → H} {W : World} {v : Value} {d : DataW H} {ps : List MemPlace} (h : DataW.Trod enc Try.prog W 0 (fun _ => true) true 43 v d ps) (hv : v.cells = #[v])
    (hsz : ∀ n ∈ d.weights Try.prog 43, n ≤ reachBytes) :
    ∃ (A : Option Addr) (l ys : List Int), v = .slice A l.length ys.length ∧ l.length ≤ ys.length ∧ ys.length ≤ 17592186044416 ∧ Kd.C (Kd.int .i64) W A l.length l ∧ Kd.C (Kd.int .i64) W A ys.length ys ∧ ∀ x, x ∈ l → (Lit.int .i64 x).wf = true := by
  obtain ⟨fuel, hf⟩ := h
  rw [hv] at hf
  obtain ⟨A, n, ys, hcs, hn, hl, hC, hw⟩ := open_intsK o_underlying43 hf hsz
  obtain rfl : v = .slice A n ys.length := by simpa using hcs
  have e : (ys.take n).length = n := by rw [List.length_take]; omega
  refine ⟨A, ys.take n, ys, by rw [e], by omega, hl, ?_, hC, fun x hx => hw x (List.mem_of_mem_take hx)⟩
  rw [e]
  exact C_take hC n hn
end Go.Proofs.Ytdbeochifofdoaa.X
end

section
-- Written by a program of this session (wip/hook.py, which runs the kit's print.py with contracts proved by hand). Not trusted: Lean checks it.
namespace Go.Proofs.Ytdbeochifofdoaa.X
open Go.RowKit Go.Proofs.YtdbeochifofdoaaW.PrintWords Go.Proofs.YtdbeochifofdoaaW.PrintLast Go.Proofs.YtdbeochifofdoaaW.PrintMore
attribute [local go_sem] max2_int min2_int max_two min_two max_three min_three max_four min_four   -- for this text's walks alone
set_option linter.unusedVariables false
set_option linter.unusedSimpArgs false

/-! ### verditerref06_tells: function 62 -/
mutual
def verditerref06_tells.l0 : Nat → Int → List (S53) → Int → Option (Bool)
  | 0, _, _, _ => none
  | k + 1, x0, x1, x5 => if x5 < x0 then ((verditerref06_mark.f k x1 x5).bind fun t219 => ((verditerref06_isBlank.f k t219).bind fun t222 => (if t222 = true then (some false) else (verditerref06_tells.l1 k x0 x1 x5 t219 0)))) else (some true)
def verditerref06_tells.l1 : Nat → Int → List (S53) → Int → List Int → Int → Option (Bool)
  | 0, _, _, _, _, _ => none
  | k + 1, x0, x1, x5, x6, x7 => if x7 < x5 then ((verditerref06_mark.f k x1 x7).bind fun t223 => ((verditerref06_SameInts.f k x6 t223).bind fun t226 => (if t226 = true then (some false) else ((verditerref06_mark.f k x1 x7).bind fun t227 => ((verditerref06_times.f k t227 (-1)).bind fun t230 => ((verditerref06_SameInts.f k x6 t230).bind fun t233 => (if t233 = true then (some false) else (verditerref06_tells.l1 k x0 x1 x5 x6 (wrap64 (x7 + 1)))))))))) else (verditerref06_tells.l0 k x0 x1 (wrap64 (x5 + 1)))
end
def verditerref06_tells.f (k : Nat) (a0 : Int) (l1 : List (S53)) : Option (Bool) := verditerref06_tells.l0 k a0 l1 0
theorem verditerref06_tells.mono_l : ∀ k, (∀ y0 y1 y2, LeO (verditerref06_tells.l0 k y0 y1 y2) (verditerref06_tells.l0 (k + 1) y0 y1 y2)) ∧ (∀ y0 y1 y2 y3 y4, LeO (verditerref06_tells.l1 k y0 y1 y2 y3 y4) (verditerref06_tells.l1 (k + 1) y0 y1 y2 y3 y4))
  | 0 => ⟨fun _ _ _ r h => by simp [verditerref06_tells.l0] at h, fun _ _ _ _ _ r h => by simp [verditerref06_tells.l1] at h⟩
  | k + 1 => by
    obtain ⟨ih0, ih1⟩ := verditerref06_tells.mono_l k
    refine ⟨?_, ?_⟩
    · intro y0 y1 y2
      unfold verditerref06_tells.l0
      repeat' first
      | (with_reducible exact ih0 _ _ _)
      | (with_reducible exact ih1 _ _ _ _ _)
      | (with_reducible exact verditerref06_SameInts.mono _ _ _)
      | (with_reducible exact verditerref06_isBlank.mono _ _)
      | (with_reducible exact verditerref06_mark.mono _ _ _)
      | (with_reducible exact verditerref06_times.mono _ _ _)
      | (with_reducible exact LeO.refl _)
      | (with_reducible exact LeO.none _)
      | (with_reducible refine LeO.ite ?_ ?_)
      | (with_reducible refine LeO.bind ?_ (fun _ => ?_))
      | exact ih0 _ _ _
      | exact ih1 _ _ _ _ _
      | exact verditerref06_SameInts.mono _ _ _
      | exact verditerref06_isBlank.mono _ _
      | exact verditerref06_mark.mono _ _ _
      | exact verditerref06_times.mono _ _ _
      | exact LeO.none _
      | refine LeO.ite ?_ ?_
      | refine LeO.bind ?_ (fun _ => ?_)
    · intro y0 y1 y2 y3 y4
      unfold verditerref06_tells.l1
      repeat' first
      | (with_reducible exact ih0 _ _ _)
      | (with_reducible exact ih1 _ _ _ _ _)
      | (with_reducible exact verditerref06_SameInts.mono _ _ _)
      | (with_reducible exact verditerref06_isBlank.mono _ _)
      | (with_reducible exact verditerref06_mark.mono _ _ _)
      | (with_reducible exact verditerref06_times.mono _ _ _)
      | (with_reducible exact LeO.refl _)
      | (with_reducible exact LeO.none _)
      | (with_reducible refine LeO.ite ?_ ?_)
      | (with_reducible refine LeO.bind ?_ (fun _ => ?_))
      | exact ih0 _ _ _
      | exact ih1 _ _ _ _ _
      | exact verditerref06_SameInts.mono _ _ _
      | exact verditerref06_isBlank.mono _ _
      | exact verditerref06_mark.mono _ _ _
      | exact verditerref06_times.mono _ _ _
      | exact LeO.none _
      | refine LeO.ite ?_ ?_
      | refine LeO.bind ?_ (fun _ => ?_)
theorem verditerref06_tells.mono : ∀ a0 a1 k, LeO (verditerref06_tells.f k a0 a1) (verditerref06_tells.f (k + 1) a0 a1) := by
  intro a0 a1 k
  obtain ⟨ih0, ih1⟩ := verditerref06_tells.mono_l k
  unfold verditerref06_tells.f
  repeat' first
      | (with_reducible exact ih0 _ _ _)
      | (with_reducible exact ih1 _ _ _ _ _)
      | (with_reducible exact verditerref06_SameInts.mono _ _ _)
      | (with_reducible exact verditerref06_isBlank.mono _ _)
      | (with_reducible exact verditerref06_mark.mono _ _ _)
      | (with_reducible exact verditerref06_times.mono _ _ _)
      | (with_reducible exact LeO.refl _)
      | (with_reducible exact LeO.none _)
      | (with_reducible refine LeO.ite ?_ ?_)
      | (with_reducible refine LeO.bind ?_ (fun _ => ?_))
      | exact ih0 _ _ _
      | exact ih1 _ _ _ _ _
      | exact verditerref06_SameInts.mono _ _ _
      | exact verditerref06_isBlank.mono _ _
      | exact verditerref06_mark.mono _ _ _
      | exact verditerref06_times.mono _ _ _
      | exact LeO.none _
      | refine LeO.ite ?_ ?_
      | refine LeO.bind ?_ (fun _ => ?_)
set_option maxHeartbeats 8000000 in
set_option maxRecDepth 100000 in
theorem verditerref06_tells.calls (k : Nat) (a0 : Int) (A1 : Option Addr) (c1 : Nat) (l1 : List (S53)) (r : Bool) (w : World) (hr1 : Kd.C k53 w A1 l1.length l1) (hc1 : l1.length ≤ c1) (h : verditerref06_tells.f k a0 l1 = some r) :
    Calls Try.prog 62 #[.int .i64 a0, .slice A1 l1.length c1] w fun e w' => e = .returned (.bool r) ∧ Below w.heap.size w w' := by
  have HR1 := Aside0.mk hr1
  have HC1 := Aside0.mk hc1
  clear hr1 hc1
  have HB := Aside0.mk (Below.refl w.heap.size w)
  have H : (verditerref06_tells.l0 k a0 l1 0) = some r := h
  clear h
  have H' := Aside0.mk H
  clear H
  go_enter Try.func62, Try.ntmps62
  go_wp2
  go_loopg [5] k (fun kq v5 w' => ∃ (x5_1 : Int), v5 = .int .i64 x5_1 ∧ Aside0 (verditerref06_tells.l0 kq a0 l1 x5_1 = some r) ∧ Aside0 (kq ≤ k) ∧ Aside0 (Below w.heap.size w w'))
  case atStart => exact ⟨(0), (by first | rfl | (simp; done) | (simp [*]; done)), H', ⟨Nat.le_refl _⟩, ⟨by repeat (first | (with_reducible first | exact HB.out | apply below_alloc | apply pw_below_drewN | apply below_drew1) | exact HB.out)⟩⟩
  case round =>
    clear H'
    try clear c1
    try clear p2
    obtain ⟨x5_1, rfl, HA, HK1, HB⟩ := hrel
    cases gk with
    | zero => exact absurd HA.out (by simp [verditerref06_tells.l0])
    | succ k1 =>
      have H := HA.out
      clear HA
      simp only [verditerref06_tells.l0] at H
      by_cases c3 : x5_1 < a0
      · rw [if_pos c3] at H
        have c3b0 : decide (x5_1 < a0) = true := decide_eq_true c3
        clear c3
        replace H := Option.bind_eq_some_iff.mp H
        obtain ⟨t219, A40, H⟩ := H
        replace H : ((verditerref06_isBlank.f k1 t219).bind fun t222 => (if t222 = true then (some false) else (verditerref06_tells.l1 k1 a0 l1 x5_1 t219 0))) = some r := H
        have A4 := Aside0.mk A40
        clear A40
        replace H := Option.bind_eq_some_iff.mp H
        obtain ⟨t222, A50, H⟩ := H
        replace H : (if t222 = true then (some false) else (verditerref06_tells.l1 k1 a0 l1 x5_1 t219 0)) = some r := H
        have A5 := Aside0.mk A50
        clear A50
        by_cases c6 : t222 = true
        · subst c6
          have H1 : (some false) = some r := by rw [if_pos rfl] at H; exact H
          clear H
          have H := H1
          clear H1
          obtain rfl := Option.some.inj H
          go_wp2_with (first | ((with_reducible refine gate_callee (f := 80) rfl ?_); refine goesL_ (some 15) rfl rfl Try.func80 (by kernel_rfl) rfl #[.slice A1 l1.length c1, .int .i64 x5_1] rfl (by (try simp only [List.map_toArray, List.map_cons, List.map_nil]); first | done | rfl | (simp only [List.length_drop, List.length_take]; rfl)) ?_; (with_reducible refine (verditerref06_mark.calls k1 _ _ l1 x5_1 t219 _ ?side1 ?side2 A4.out).mono ?_); (case side1 => repeat (first | exact (Kd.C_below HR1.out HB.out) | (with_reducible refine Kd.C_alloc ?_ _) | (with_reducible refine Kd.C_drewN ?_ _) | (with_reducible refine Kd.C_drew ?_))); (case side2 => exact HC1.out); rintro e w7 ⟨v220, rfl, ho0, hb⟩; refine ⟨_, rfl, ?_⟩; have n0_ := Aside0.mk (Kd.R_lower ho0 (below_size (by repeat (first | (with_reducible first | exact HB.out | apply below_alloc | apply pw_below_drewN | apply below_drew1) | exact HB.out)))); have n1_ := Aside0.mk (below_step (by repeat (first | (with_reducible first | exact HB.out | apply below_alloc | apply pw_below_drewN | apply below_drew1) | exact HB.out)) hb); clear HB; have HO221 := n0_; have HB := n1_; clear n0_ n1_; (try clear hb); (try clear hb2); (try clear hk); (try clear hi); (try clear ho0); obtain ⟨Ao8, co8, eo8⟩ := Kd.R_slice HO221.out; subst eo8) | ((with_reducible refine gate_callee (f := 81) rfl ?_); refine goesL_ (some 17) rfl rfl Try.func81 (by kernel_rfl) rfl #[.slice Ao8 t219.length co8] rfl (by (try simp only [List.map_toArray, List.map_cons, List.map_nil]); first | done | rfl | (simp only [List.length_drop, List.length_take]; rfl)) ?_; (with_reducible refine (verditerref06_isBlank.calls k1 _ _ t219 true _ ?side1 ?side2 A5.out).mono ?_); (case side1 => repeat (first | exact (Kd.R_reads' HO221.out).2.2 | (with_reducible refine Kd.C_alloc ?_ _) | (with_reducible refine Kd.C_drewN ?_ _) | (with_reducible refine Kd.C_drew ?_))); (case side2 => exact (Kd.R_reads' HO221.out).2.1); rintro e w' ⟨rfl, ⟨nd, rfl⟩⟩; refine ⟨_, rfl, ?_⟩))
          go_ret
          exact ⟨by first | rfl | (simp [errW_none, errW_some] <;> rfl) | (simp [*, errW_none, errW_some] <;> rfl), by repeat (first | (with_reducible first | exact HB.out | apply below_alloc | apply pw_below_drewN | apply below_drew1) | exact HB.out)⟩
        · replace c6 := Bool.eq_false_iff.mpr c6
          subst c6
          have H1 : (verditerref06_tells.l1 k1 a0 l1 x5_1 t219 0) = some r := by rw [if_neg (show ¬ (false = true) by decide)] at H; exact H
          clear H
          have H := H1
          clear H1
          have H' := Aside0.mk H
          clear H
          go_wp2_with (first | ((with_reducible refine gate_callee (f := 80) rfl ?_); refine goesL_ (some 15) rfl rfl Try.func80 (by kernel_rfl) rfl #[.slice A1 l1.length c1, .int .i64 x5_1] rfl (by (try simp only [List.map_toArray, List.map_cons, List.map_nil]); first | done | rfl | (simp only [List.length_drop, List.length_take]; rfl)) ?_; (with_reducible refine (verditerref06_mark.calls k1 _ _ l1 x5_1 t219 _ ?side1 ?side2 A4.out).mono ?_); (case side1 => repeat (first | exact (Kd.C_below HR1.out HB.out) | (with_reducible refine Kd.C_alloc ?_ _) | (with_reducible refine Kd.C_drewN ?_ _) | (with_reducible refine Kd.C_drew ?_))); (case side2 => exact HC1.out); rintro e w9 ⟨v220, rfl, ho0, hb⟩; refine ⟨_, rfl, ?_⟩; have n0_ := Aside0.mk (Kd.R_lower ho0 (below_size (by repeat (first | (with_reducible first | exact HB.out | apply below_alloc | apply pw_below_drewN | apply below_drew1) | exact HB.out)))); have n1_ := Aside0.mk (below_step (by repeat (first | (with_reducible first | exact HB.out | apply below_alloc | apply pw_below_drewN | apply below_drew1) | exact HB.out)) hb); clear HB; have HO221 := n0_; have HB := n1_; clear n0_ n1_; (try clear hb); (try clear hb2); (try clear hk); (try clear hi); (try clear ho0); obtain ⟨Ao10, co10, eo10⟩ := Kd.R_slice HO221.out; subst eo10) | ((with_reducible refine gate_callee (f := 81) rfl ?_); refine goesL_ (some 17) rfl rfl Try.func81 (by kernel_rfl) rfl #[.slice Ao10 t219.length co10] rfl (by (try simp only [List.map_toArray, List.map_cons, List.map_nil]); first | done | rfl | (simp only [List.length_drop, List.length_take]; rfl)) ?_; (with_reducible refine (verditerref06_isBlank.calls k1 _ _ t219 false _ ?side1 ?side2 A5.out).mono ?_); (case side1 => repeat (first | exact (Kd.R_reads' HO221.out).2.2 | (with_reducible refine Kd.C_alloc ?_ _) | (with_reducible refine Kd.C_drewN ?_ _) | (with_reducible refine Kd.C_drew ?_))); (case side2 => exact (Kd.R_reads' HO221.out).2.1); rintro e w' ⟨rfl, ⟨nd, rfl⟩⟩; refine ⟨_, rfl, ?_⟩))
          go_loopg [7] k1 (fun kq v7 w' => ∃ (x7_2 : Int), v7 = .int .i64 x7_2 ∧ Aside0 (verditerref06_tells.l1 kq a0 l1 x5_1 t219 x7_2 = some r) ∧ Aside0 (kq ≤ k1) ∧ Aside0 (Kd.R (Kd.int .i64) 3 w' w.heap.size (fun _ => True) (.slice Ao10 t219.length co10) t219) ∧ Aside0 (Below w.heap.size w w'))
          case atStart => exact ⟨(0), (by first | rfl | (simp; done) | (simp [*]; done)), H', ⟨Nat.le_refl _⟩, ⟨by (with_reducible repeat (first | apply Kd.R_alloc | apply Kd.R_drewN | apply Kd.R_drew)); exact HO221.out⟩, ⟨by repeat (first | (with_reducible first | exact HB.out | apply below_alloc | apply pw_below_drewN | apply below_drew1) | exact HB.out)⟩⟩
          case round =>
            clear H'
            try clear c1
            try clear p2
            try clear c3
            try clear c3b0
            try clear c6
            try clear c8
            try clear p2
            obtain ⟨x7_2, rfl, HA, HK2, HO_6, HB⟩ := hrel
            cases gk with
            | zero => exact absurd HA.out (by simp [verditerref06_tells.l1])
            | succ k2 =>
              have H := HA.out
              clear HA
              simp only [verditerref06_tells.l1] at H
              by_cases c11 : x7_2 < x5_1
              · rw [if_pos c11] at H
                have c11b0 : decide (x7_2 < x5_1) = true := decide_eq_true c11
                clear c11
                replace H := Option.bind_eq_some_iff.mp H
                obtain ⟨t223, A120, H⟩ := H
                replace H : ((verditerref06_SameInts.f k2 t219 t223).bind fun t226 => (if t226 = true then (some false) else ((verditerref06_mark.f k2 l1 x7_2).bind fun t227 => ((verditerref06_times.f k2 t227 (-1)).bind fun t230 => ((verditerref06_SameInts.f k2 t219 t230).bind fun t233 => (if t233 = true then (some false) else (verditerref06_tells.l1 k2 a0 l1 x5_1 t219 (wrap64 (x7_2 + 1))))))))) = some r := H
                have A12 := Aside0.mk A120
                clear A120
                replace H := Option.bind_eq_some_iff.mp H
                obtain ⟨t226, A130, H⟩ := H
                replace H : (if t226 = true then (some false) else ((verditerref06_mark.f k2 l1 x7_2).bind fun t227 => ((verditerref06_times.f k2 t227 (-1)).bind fun t230 => ((verditerref06_SameInts.f k2 t219 t230).bind fun t233 => (if t233 = true then (some false) else (verditerref06_tells.l1 k2 a0 l1 x5_1 t219 (wrap64 (x7_2 + 1)))))))) = some r := H
                have A13 := Aside0.mk A130
                clear A130
                by_cases c14 : t226 = true
                · subst c14
                  have H1 : (some false) = some r := by rw [if_pos rfl] at H; exact H
                  clear H
                  have H := H1
                  clear H1
                  obtain rfl := Option.some.inj H
                  go_wp2_with (first | ((with_reducible refine gate_callee (f := 80) rfl ?_); refine goesL_ (some 26) rfl rfl Try.func80 (by kernel_rfl) rfl #[.slice A1 l1.length c1, .int .i64 x7_2] rfl (by (try simp only [List.map_toArray, List.map_cons, List.map_nil]); first | done | rfl | (simp only [List.length_drop, List.length_take]; rfl)) ?_; (with_reducible refine (verditerref06_mark.calls k2 _ _ l1 x7_2 t223 _ ?side1 ?side2 A12.out).mono ?_); (case side1 => repeat (first | exact (Kd.C_below HR1.out HB.out) | (with_reducible refine Kd.C_alloc ?_ _) | (with_reducible refine Kd.C_drewN ?_ _) | (with_reducible refine Kd.C_drew ?_))); (case side2 => exact HC1.out); rintro e w15 ⟨v224, rfl, ho0, hb⟩; refine ⟨_, rfl, ?_⟩; have n0_ := Aside0.mk (Kd.R_elder' (by (with_reducible repeat (first | apply Kd.R_alloc | apply Kd.R_drewN | apply Kd.R_drew)); exact HO_6.out) (Kd.R_base ho0) hb); have n1_ := Aside0.mk (Kd.R_lower (Kd.R_new' ho0 (Kd.R_lt (by (with_reducible repeat (first | apply Kd.R_alloc | apply Kd.R_drewN | apply Kd.R_drew)); exact HO_6.out))) (below_size (by repeat (first | (with_reducible first | exact HB.out | apply below_alloc | apply pw_below_drewN | apply below_drew1) | exact HB.out)))); have n2_ := Aside0.mk (below_step (by repeat (first | (with_reducible first | exact HB.out | apply below_alloc | apply pw_below_drewN | apply below_drew1) | exact HB.out)) hb); clear HO_6; clear HB; have HO_6 := n0_; have HO225 := n1_; have HB := n2_; clear n0_ n1_ n2_; (try clear hb); (try clear hb2); (try clear hk); (try clear hi); (try clear ho0); obtain ⟨Ao16, co16, eo16⟩ := Kd.R_slice HO225.out; subst eo16) | ((with_reducible refine gate_callee (f := 60) rfl ?_); refine goesL_ (some 27) rfl rfl Try.func60 (by kernel_rfl) rfl #[.slice Ao10 t219.length co10, .slice Ao16 t223.length co16] rfl (by (try simp only [List.map_toArray, List.map_cons, List.map_nil]); first | done | rfl | (simp only [List.length_drop, List.length_take]; rfl)) ?_; (with_reducible refine (verditerref06_SameInts.calls k2 _ _ t219 _ _ t223 true _ ?side1 ?side2 ?side3 ?side4 A13.out).mono ?_); (case side1 => repeat (first | exact (Kd.R_reads' HO_6.out).2.2 | (with_reducible refine Kd.C_alloc ?_ _) | (with_reducible refine Kd.C_drewN ?_ _) | (with_reducible refine Kd.C_drew ?_))); (case side2 => exact (Kd.R_reads' HO_6.out).2.1); (case side3 => repeat (first | exact (Kd.R_reads' HO225.out).2.2 | (with_reducible refine Kd.C_alloc ?_ _) | (with_reducible refine Kd.C_drewN ?_ _) | (with_reducible refine Kd.C_drew ?_))); (case side4 => exact (Kd.R_reads' HO225.out).2.1); rintro e w' ⟨rfl, ⟨nd, rfl⟩⟩; refine ⟨_, rfl, ?_⟩))
                  go_ret
                  exact ⟨by first | rfl | (simp [errW_none, errW_some] <;> rfl) | (simp [*, errW_none, errW_some] <;> rfl), by repeat (first | (with_reducible first | exact HB.out | apply below_alloc | apply pw_below_drewN | apply below_drew1) | exact HB.out)⟩
                · replace c14 := Bool.eq_false_iff.mpr c14
                  subst c14
                  have H1 : ((verditerref06_mark.f k2 l1 x7_2).bind fun t227 => ((verditerref06_times.f k2 t227 (-1)).bind fun t230 => ((verditerref06_SameInts.f k2 t219 t230).bind fun t233 => (if t233 = true then (some false) else (verditerref06_tells.l1 k2 a0 l1 x5_1 t219 (wrap64 (x7_2 + 1))))))) = some r := by rw [if_neg (show ¬ (false = true) by decide)] at H; exact H
                  clear H
                  have H := H1
                  clear H1
                  replace H := Option.bind_eq_some_iff.mp H
                  obtain ⟨t227, A170, H⟩ := H
                  replace H : ((verditerref06_times.f k2 t227 (-1)).bind fun t230 => ((verditerref06_SameInts.f k2 t219 t230).bind fun t233 => (if t233 = true then (some false) else (verditerref06_tells.l1 k2 a0 l1 x5_1 t219 (wrap64 (x7_2 + 1)))))) = some r := H
                  have A17 := Aside0.mk A170
                  clear A170
                  replace H := Option.bind_eq_some_iff.mp H
                  obtain ⟨t230, A180, H⟩ := H
                  replace H : ((verditerref06_SameInts.f k2 t219 t230).bind fun t233 => (if t233 = true then (some false) else (verditerref06_tells.l1 k2 a0 l1 x5_1 t219 (wrap64 (x7_2 + 1))))) = some r := H
                  have A18 := Aside0.mk A180
                  clear A180
                  replace H := Option.bind_eq_some_iff.mp H
                  obtain ⟨t233, A190, H⟩ := H
                  replace H : (if t233 = true then (some false) else (verditerref06_tells.l1 k2 a0 l1 x5_1 t219 (wrap64 (x7_2 + 1)))) = some r := H
                  have A19 := Aside0.mk A190
                  clear A190
                  by_cases c20 : t233 = true
                  · subst c20
                    have H1 : (some false) = some r := by rw [if_pos rfl] at H; exact H
                    clear H
                    have H := H1
                    clear H1
                    obtain rfl := Option.some.inj H
                    go_wp2_with (first | ((with_reducible refine gate_callee (f := 80) rfl ?_); refine goesL_ (some 26) rfl rfl Try.func80 (by kernel_rfl) rfl #[.slice A1 l1.length c1, .int .i64 x7_2] rfl (by (try simp only [List.map_toArray, List.map_cons, List.map_nil]); first | done | rfl | (simp only [List.length_drop, List.length_take]; rfl)) ?_; (with_reducible refine (verditerref06_mark.calls k2 _ _ l1 x7_2 t223 _ ?side1 ?side2 A12.out).mono ?_); (case side1 => repeat (first | exact (Kd.C_below HR1.out HB.out) | (with_reducible refine Kd.C_alloc ?_ _) | (with_reducible refine Kd.C_drewN ?_ _) | (with_reducible refine Kd.C_drew ?_))); (case side2 => exact HC1.out); rintro e w21 ⟨v224, rfl, ho0, hb⟩; refine ⟨_, rfl, ?_⟩; have n0_ := Aside0.mk (Kd.R_elder' (by (with_reducible repeat (first | apply Kd.R_alloc | apply Kd.R_drewN | apply Kd.R_drew)); exact HO_6.out) (Kd.R_base ho0) hb); have n1_ := Aside0.mk (Kd.R_lower (Kd.R_new' ho0 (Kd.R_lt (by (with_reducible repeat (first | apply Kd.R_alloc | apply Kd.R_drewN | apply Kd.R_drew)); exact HO_6.out))) (below_size (by repeat (first | (with_reducible first | exact HB.out | apply below_alloc | apply pw_below_drewN | apply below_drew1) | exact HB.out)))); have n2_ := Aside0.mk (below_step (by repeat (first | (with_reducible first | exact HB.out | apply below_alloc | apply pw_below_drewN | apply below_drew1) | exact HB.out)) hb); clear HO_6; clear HB; have HO_6 := n0_; have HO225 := n1_; have HB := n2_; clear n0_ n1_ n2_; (try clear hb); (try clear hb2); (try clear hk); (try clear hi); (try clear ho0); obtain ⟨Ao22, co22, eo22⟩ := Kd.R_slice HO225.out; subst eo22) | ((with_reducible refine gate_callee (f := 60) rfl ?_); refine goesL_ (some 27) rfl rfl Try.func60 (by kernel_rfl) rfl #[.slice Ao10 t219.length co10, .slice Ao22 t223.length co22] rfl (by (try simp only [List.map_toArray, List.map_cons, List.map_nil]); first | done | rfl | (simp only [List.length_drop, List.length_take]; rfl)) ?_; (with_reducible refine (verditerref06_SameInts.calls k2 _ _ t219 _ _ t223 false _ ?side1 ?side2 ?side3 ?side4 A13.out).mono ?_); (case side1 => repeat (first | exact (Kd.R_reads' HO_6.out).2.2 | (with_reducible refine Kd.C_alloc ?_ _) | (with_reducible refine Kd.C_drewN ?_ _) | (with_reducible refine Kd.C_drew ?_))); (case side2 => exact (Kd.R_reads' HO_6.out).2.1); (case side3 => repeat (first | exact (Kd.R_reads' HO225.out).2.2 | (with_reducible refine Kd.C_alloc ?_ _) | (with_reducible refine Kd.C_drewN ?_ _) | (with_reducible refine Kd.C_drew ?_))); (case side4 => exact (Kd.R_reads' HO225.out).2.1); rintro e w' ⟨rfl, ⟨nd, rfl⟩⟩; refine ⟨_, rfl, ?_⟩) | (go_at_call 80; (with_reducible refine (verditerref06_mark.calls k2 _ _ l1 x7_2 t227 _ ?side1 ?side2 A17.out).mono ?_); (case side1 => repeat (first | exact (Kd.C_below HR1.out (by repeat (first | (with_reducible first | exact HB.out | apply below_alloc | apply pw_below_drewN | apply below_drew1) | exact HB.out))) | (with_reducible refine Kd.C_alloc ?_ _) | (with_reducible refine Kd.C_drewN ?_ _) | (with_reducible refine Kd.C_drew ?_))); (case side2 => exact HC1.out); rintro e w23 ⟨v228, rfl, ho0, hb⟩; have n0_ := Aside0.mk (Kd.R_elder' (by (with_reducible repeat (first | apply Kd.R_alloc | apply Kd.R_drewN | apply Kd.R_drew)); exact HO_6.out) (Kd.R_base ho0) hb); have n1_ := Aside0.mk (Kd.R_elder' (by (with_reducible repeat (first | apply Kd.R_alloc | apply Kd.R_drewN | apply Kd.R_drew)); exact HO225.out) (Kd.R_base ho0) hb); have n2_ := Aside0.mk (Kd.R_lower (Kd.R_new' (Kd.R_new' ho0 (Kd.R_lt (by (with_reducible repeat (first | apply Kd.R_alloc | apply Kd.R_drewN | apply Kd.R_drew)); exact HO_6.out))) (Kd.R_lt (by (with_reducible repeat (first | apply Kd.R_alloc | apply Kd.R_drewN | apply Kd.R_drew)); exact HO225.out))) (below_size (by repeat (first | (with_reducible first | exact HB.out | apply below_alloc | apply pw_below_drewN | apply below_drew1) | exact HB.out)))); have n3_ := Aside0.mk (below_step (by repeat (first | (with_reducible first | exact HB.out | apply below_alloc | apply pw_below_drewN | apply below_drew1) | exact HB.out)) hb); clear HO_6; clear HO225; clear HB; have HO_6 := n0_; have HO225 := n1_; have HO229 := n2_; have HB := n3_; clear n0_ n1_ n2_ n3_; (try clear hb); (try clear hb2); (try clear hk); (try clear hi); (try clear ho0); obtain ⟨Ao24, co24, eo24⟩ := Kd.R_slice HO229.out; subst eo24) | (go_at_call 79; (with_reducible refine (verditerref06_times.calls k2 _ _ t227 (-1) t230 _ ?side1 ?side2 A18.out).mono ?_); (case side1 => repeat (first | exact (Kd.R_reads' HO229.out).2.2 | (with_reducible refine Kd.C_alloc ?_ _) | (with_reducible refine Kd.C_drewN ?_ _) | (with_reducible refine Kd.C_drew ?_))); (case side2 => exact (Kd.R_reads' HO229.out).2.1); rintro e w25 ⟨v231, rfl, ho0, hb⟩; have n0_ := Aside0.mk (Kd.R_elder' (by (with_reducible repeat (first | apply Kd.R_alloc | apply Kd.R_drewN | apply Kd.R_drew)); exact HO_6.out) (Kd.R_base ho0) hb); have n1_ := Aside0.mk (Kd.R_elder' (by (with_reducible repeat (first | apply Kd.R_alloc | apply Kd.R_drewN | apply Kd.R_drew)); exact HO225.out) (Kd.R_base ho0) hb); have n2_ := Aside0.mk (Kd.R_elder' (by (with_reducible repeat (first | apply Kd.R_alloc | apply Kd.R_drewN | apply Kd.R_drew)); exact HO229.out) (Kd.R_base ho0) hb); have n3_ := Aside0.mk (Kd.R_lower (Kd.R_new' (Kd.R_new' (Kd.R_new' ho0 (Kd.R_lt (by (with_reducible repeat (first | apply Kd.R_alloc | apply Kd.R_drewN | apply Kd.R_drew)); exact HO_6.out))) (Kd.R_lt (by (with_reducible repeat (first | apply Kd.R_alloc | apply Kd.R_drewN | apply Kd.R_drew)); exact HO225.out))) (Kd.R_lt (by (with_reducible repeat (first | apply Kd.R_alloc | apply Kd.R_drewN | apply Kd.R_drew)); exact HO229.out))) (below_size (by repeat (first | (with_reducible first | exact HB.out | apply below_alloc | apply pw_below_drewN | apply below_drew1) | exact HB.out)))); have n4_ := Aside0.mk (below_step (by repeat (first | (with_reducible first | exact HB.out | apply below_alloc | apply pw_below_drewN | apply below_drew1) | exact HB.out)) hb); clear HO_6; clear HO225; clear HO229; clear HB; have HO_6 := n0_; have HO225 := n1_; have HO229 := n2_; have HO232 := n3_; have HB := n4_; clear n0_ n1_ n2_ n3_ n4_; (try clear hb); (try clear hb2); (try clear hk); (try clear hi); (try clear ho0); obtain ⟨Ao26, co26, eo26⟩ := Kd.R_slice HO232.out; subst eo26) | (go_at_call 60; (with_reducible refine (verditerref06_SameInts.calls k2 _ _ t219 _ _ t230 true _ ?side1 ?side2 ?side3 ?side4 A19.out).mono ?_); (case side1 => repeat (first | exact (Kd.R_reads' HO_6.out).2.2 | (with_reducible refine Kd.C_alloc ?_ _) | (with_reducible refine Kd.C_drewN ?_ _) | (with_reducible refine Kd.C_drew ?_))); (case side2 => exact (Kd.R_reads' HO_6.out).2.1); (case side3 => repeat (first | exact (Kd.R_reads' HO232.out).2.2 | (with_reducible refine Kd.C_alloc ?_ _) | (with_reducible refine Kd.C_drewN ?_ _) | (with_reducible refine Kd.C_drew ?_))); (case side4 => exact (Kd.R_reads' HO232.out).2.1); rintro e w' ⟨rfl, ⟨nd, rfl⟩⟩))
                    go_ret
                    exact ⟨by first | rfl | (simp [errW_none, errW_some] <;> rfl) | (simp [*, errW_none, errW_some] <;> rfl), by repeat (first | (with_reducible first | exact HB.out | apply below_alloc | apply pw_below_drewN | apply below_drew1) | exact HB.out)⟩
                  · replace c20 := Bool.eq_false_iff.mpr c20
                    subst c20
                    have H1 : (verditerref06_tells.l1 k2 a0 l1 x5_1 t219 (wrap64 (x7_2 + 1))) = some r := by rw [if_neg (show ¬ (false = true) by decide)] at H; exact H
                    clear H
                    have H := H1
                    clear H1
                    have H' := Aside0.mk H
                    clear H
                    go_wp2_with (first | ((with_reducible refine gate_callee (f := 80) rfl ?_); refine goesL_ (some 26) rfl rfl Try.func80 (by kernel_rfl) rfl #[.slice A1 l1.length c1, .int .i64 x7_2] rfl (by (try simp only [List.map_toArray, List.map_cons, List.map_nil]); first | done | rfl | (simp only [List.length_drop, List.length_take]; rfl)) ?_; (with_reducible refine (verditerref06_mark.calls k2 _ _ l1 x7_2 t223 _ ?side1 ?side2 A12.out).mono ?_); (case side1 => repeat (first | exact (Kd.C_below HR1.out HB.out) | (with_reducible refine Kd.C_alloc ?_ _) | (with_reducible refine Kd.C_drewN ?_ _) | (with_reducible refine Kd.C_drew ?_))); (case side2 => exact HC1.out); rintro e w27 ⟨v224, rfl, ho0, hb⟩; refine ⟨_, rfl, ?_⟩; have n0_ := Aside0.mk (Kd.R_elder' (by (with_reducible repeat (first | apply Kd.R_alloc | apply Kd.R_drewN | apply Kd.R_drew)); exact HO_6.out) (Kd.R_base ho0) hb); have n1_ := Aside0.mk (Kd.R_lower (Kd.R_new' ho0 (Kd.R_lt (by (with_reducible repeat (first | apply Kd.R_alloc | apply Kd.R_drewN | apply Kd.R_drew)); exact HO_6.out))) (below_size (by repeat (first | (with_reducible first | exact HB.out | apply below_alloc | apply pw_below_drewN | apply below_drew1) | exact HB.out)))); have n2_ := Aside0.mk (below_step (by repeat (first | (with_reducible first | exact HB.out | apply below_alloc | apply pw_below_drewN | apply below_drew1) | exact HB.out)) hb); clear HO_6; clear HB; have HO_6 := n0_; have HO225 := n1_; have HB := n2_; clear n0_ n1_ n2_; (try clear hb); (try clear hb2); (try clear hk); (try clear hi); (try clear ho0); obtain ⟨Ao28, co28, eo28⟩ := Kd.R_slice HO225.out; subst eo28) | ((with_reducible refine gate_callee (f := 60) rfl ?_); refine goesL_ (some 27) rfl rfl Try.func60 (by kernel_rfl) rfl #[.slice Ao10 t219.length co10, .slice Ao28 t223.length co28] rfl (by (try simp only [List.map_toArray, List.map_cons, List.map_nil]); first | done | rfl | (simp only [List.length_drop, List.length_take]; rfl)) ?_; (with_reducible refine (verditerref06_SameInts.calls k2 _ _ t219 _ _ t223 false _ ?side1 ?side2 ?side3 ?side4 A13.out).mono ?_); (case side1 => repeat (first | exact (Kd.R_reads' HO_6.out).2.2 | (with_reducible refine Kd.C_alloc ?_ _) | (with_reducible refine Kd.C_drewN ?_ _) | (with_reducible refine Kd.C_drew ?_))); (case side2 => exact (Kd.R_reads' HO_6.out).2.1); (case side3 => repeat (first | exact (Kd.R_reads' HO225.out).2.2 | (with_reducible refine Kd.C_alloc ?_ _) | (with_reducible refine Kd.C_drewN ?_ _) | (with_reducible refine Kd.C_drew ?_))); (case side4 => exact (Kd.R_reads' HO225.out).2.1); rintro e w' ⟨rfl, ⟨nd, rfl⟩⟩; refine ⟨_, rfl, ?_⟩) | (go_at_call 80; (with_reducible refine (verditerref06_mark.calls k2 _ _ l1 x7_2 t227 _ ?side1 ?side2 A17.out).mono ?_); (case side1 => repeat (first | exact (Kd.C_below HR1.out (by repeat (first | (with_reducible first | exact HB.out | apply below_alloc | apply pw_below_drewN | apply below_drew1) | exact HB.out))) | (with_reducible refine Kd.C_alloc ?_ _) | (with_reducible refine Kd.C_drewN ?_ _) | (with_reducible refine Kd.C_drew ?_))); (case side2 => exact HC1.out); rintro e w29 ⟨v228, rfl, ho0, hb⟩; have n0_ := Aside0.mk (Kd.R_elder' (by (with_reducible repeat (first | apply Kd.R_alloc | apply Kd.R_drewN | apply Kd.R_drew)); exact HO_6.out) (Kd.R_base ho0) hb); have n1_ := Aside0.mk (Kd.R_elder' (by (with_reducible repeat (first | apply Kd.R_alloc | apply Kd.R_drewN | apply Kd.R_drew)); exact HO225.out) (Kd.R_base ho0) hb); have n2_ := Aside0.mk (Kd.R_lower (Kd.R_new' (Kd.R_new' ho0 (Kd.R_lt (by (with_reducible repeat (first | apply Kd.R_alloc | apply Kd.R_drewN | apply Kd.R_drew)); exact HO_6.out))) (Kd.R_lt (by (with_reducible repeat (first | apply Kd.R_alloc | apply Kd.R_drewN | apply Kd.R_drew)); exact HO225.out))) (below_size (by repeat (first | (with_reducible first | exact HB.out | apply below_alloc | apply pw_below_drewN | apply below_drew1) | exact HB.out)))); have n3_ := Aside0.mk (below_step (by repeat (first | (with_reducible first | exact HB.out | apply below_alloc | apply pw_below_drewN | apply below_drew1) | exact HB.out)) hb); clear HO_6; clear HO225; clear HB; have HO_6 := n0_; have HO225 := n1_; have HO229 := n2_; have HB := n3_; clear n0_ n1_ n2_ n3_; (try clear hb); (try clear hb2); (try clear hk); (try clear hi); (try clear ho0); obtain ⟨Ao30, co30, eo30⟩ := Kd.R_slice HO229.out; subst eo30) | (go_at_call 79; (with_reducible refine (verditerref06_times.calls k2 _ _ t227 (-1) t230 _ ?side1 ?side2 A18.out).mono ?_); (case side1 => repeat (first | exact (Kd.R_reads' HO229.out).2.2 | (with_reducible refine Kd.C_alloc ?_ _) | (with_reducible refine Kd.C_drewN ?_ _) | (with_reducible refine Kd.C_drew ?_))); (case side2 => exact (Kd.R_reads' HO229.out).2.1); rintro e w31 ⟨v231, rfl, ho0, hb⟩; have n0_ := Aside0.mk (Kd.R_elder' (by (with_reducible repeat (first | apply Kd.R_alloc | apply Kd.R_drewN | apply Kd.R_drew)); exact HO_6.out) (Kd.R_base ho0) hb); have n1_ := Aside0.mk (Kd.R_elder' (by (with_reducible repeat (first | apply Kd.R_alloc | apply Kd.R_drewN | apply Kd.R_drew)); exact HO225.out) (Kd.R_base ho0) hb); have n2_ := Aside0.mk (Kd.R_elder' (by (with_reducible repeat (first | apply Kd.R_alloc | apply Kd.R_drewN | apply Kd.R_drew)); exact HO229.out) (Kd.R_base ho0) hb); have n3_ := Aside0.mk (Kd.R_lower (Kd.R_new' (Kd.R_new' (Kd.R_new' ho0 (Kd.R_lt (by (with_reducible repeat (first | apply Kd.R_alloc | apply Kd.R_drewN | apply Kd.R_drew)); exact HO_6.out))) (Kd.R_lt (by (with_reducible repeat (first | apply Kd.R_alloc | apply Kd.R_drewN | apply Kd.R_drew)); exact HO225.out))) (Kd.R_lt (by (with_reducible repeat (first | apply Kd.R_alloc | apply Kd.R_drewN | apply Kd.R_drew)); exact HO229.out))) (below_size (by repeat (first | (with_reducible first | exact HB.out | apply below_alloc | apply pw_below_drewN | apply below_drew1) | exact HB.out)))); have n4_ := Aside0.mk (below_step (by repeat (first | (with_reducible first | exact HB.out | apply below_alloc | apply pw_below_drewN | apply below_drew1) | exact HB.out)) hb); clear HO_6; clear HO225; clear HO229; clear HB; have HO_6 := n0_; have HO225 := n1_; have HO229 := n2_; have HO232 := n3_; have HB := n4_; clear n0_ n1_ n2_ n3_ n4_; (try clear hb); (try clear hb2); (try clear hk); (try clear hi); (try clear ho0); obtain ⟨Ao32, co32, eo32⟩ := Kd.R_slice HO232.out; subst eo32) | (go_at_call 60; (with_reducible refine (verditerref06_SameInts.calls k2 _ _ t219 _ _ t230 false _ ?side1 ?side2 ?side3 ?side4 A19.out).mono ?_); (case side1 => repeat (first | exact (Kd.R_reads' HO_6.out).2.2 | (with_reducible refine Kd.C_alloc ?_ _) | (with_reducible refine Kd.C_drewN ?_ _) | (with_reducible refine Kd.C_drew ?_))); (case side2 => exact (Kd.R_reads' HO_6.out).2.1); (case side3 => repeat (first | exact (Kd.R_reads' HO232.out).2.2 | (with_reducible refine Kd.C_alloc ?_ _) | (with_reducible refine Kd.C_drewN ?_ _) | (with_reducible refine Kd.C_drew ?_))); (case side4 => exact (Kd.R_reads' HO232.out).2.1); rintro e w' ⟨rfl, ⟨nd, rfl⟩⟩))
                    go_roundg k2
                    case measure => have := HK1.out; have := HK2.out; omega
                    case rel => exact ⟨(wrap64 (x7_2 + 1)), (by first | rfl | (simp; done) | (simp [*]; done)), H', ⟨by have := HK1.out; have := HK2.out; omega⟩, ⟨by (with_reducible repeat (first | apply Kd.R_alloc | apply Kd.R_drewN | apply Kd.R_drew)); exact Kd.R_mono HO_6.out (fun _ hk => trivial)⟩, ⟨by repeat (first | (with_reducible first | exact HB.out | apply below_alloc | apply pw_below_drewN | apply below_drew1) | exact HB.out)⟩⟩
              · rw [if_neg c11] at H
                have c11b0 : decide (x7_2 < x5_1) = false := decide_eq_false c11
                clear c11
                have H' := Aside0.mk H
                clear H
                go_wp2
                go_roundg k2
                case measure => have := HK1.out; have := HK2.out; omega
                case rel => exact ⟨(wrap64 (x5_1 + 1)), (by first | rfl | (simp; done) | (simp [*]; done)), H', ⟨by have := HK1.out; have := HK2.out; omega⟩, ⟨by repeat (first | (with_reducible first | exact HB.out | apply below_alloc | apply pw_below_drewN | apply below_drew1) | exact HB.out)⟩⟩
      · rw [if_neg c3] at H
        have c3b0 : decide (x5_1 < a0) = false := decide_eq_false c3
        clear c3
        obtain rfl := Option.some.inj H
        go_wp2
        go_ret
        exact ⟨by first | rfl | (simp [errW_none, errW_some] <;> rfl) | (simp [*, errW_none, errW_some] <;> rfl), by repeat (first | (with_reducible first | exact HB.out | apply below_alloc | apply pw_below_drewN | apply below_drew1) | exact HB.out)⟩

end Go.Proofs.Ytdbeochifofdoaa.X
end

section
/-! What the document's small functions come to. -/
namespace Go.Proofs.Ytdbeochifofdoaa.X
open Go.RowKit Go.Proofs.YtdbeochifofdoaaW.PrintWords Go.Proofs.YtdbeochifofdoaaW.PrintLast
set_option linter.unusedVariables false
set_option linter.unusedSimpArgs false

theorem wrs (i : Nat) (h : i < 9223372036854775807) : wrap64 ((i : Int) + 1) = ((i + 1 : Nat) : Int) := by rw [wr1 (by omega) (by omega)]; omega

theorem has_l0 (l : List Int) (x : Int) (hl : l.length < 9223372036854775807) : ∀ (d k i : Nat), i ≤ l.length → l.length - i = d → d < k → verditerref06_has.l0 k l x i = some ((l.drop i).contains x)
  | 0, k + 1, i, h1, h2, _ => by
    unfold verditerref06_has.l0
    rw [if_neg (by omega), List.drop_eq_nil_of_le (by omega)]
    rfl
  | d + 1, k + 1, i, h1, h2, h3 => by
    unfold verditerref06_has.l0
    rw [if_pos (by omega), if_pos (by omega), rd_nat, dropD 0 l i (by omega), List.contains_cons, wrs i (by omega)]
    have ih := has_l0 l x hl d k (i + 1) (by omega) (by omega) (by omega)
    by_cases hx : l.getD i 0 = x
    · rw [if_pos hx, hx]; simp
    · have hbe : (x == l.getD i 0) = false := by rw [beq_eq_false_iff_ne]; exact fun e => hx e.symm
      rw [if_neg hx, ih, hbe, Bool.false_or]
theorem has_f (l : List Int) (x : Int) (k : Nat) (hl : l.length < 9223372036854775807) (hk : l.length < k) : verditerref06_has.f k l x = some (l.contains x) := by
  unfold verditerref06_has.f
  exact (has_l0 l x hl l.length k 0 (by omega) (by omega) hk).trans (by simp)

/-- The document's mark of a lot. -/
def markOf (x : Int) (y : S53) : Int := if y.f1.contains x then -1 else if y.f0.contains x then 1 else 0
def refMark (l : List S53) (x : Int) : List Int := l.map (markOf x)
theorem mark_l0 (l : List S53) (x : Int) (hl : l.length < 17592186044416) (hs : ∀ y, y ∈ l → y.f0.length ≤ 50 ∧ y.f1.length ≤ 50) :
    ∀ (d k i : Nat) (acc : List Int), i ≤ l.length → l.length - i = d → acc.length = i → d + 51 < k → verditerref06_mark.l0 k l x acc i = some (acc ++ refMark (l.drop i) x)
  | 0, k + 1, i, acc, h1, h2, _, _ => by
    unfold verditerref06_mark.l0
    rw [if_neg (by omega), List.drop_eq_nil_of_le (by omega)]
    simp [refMark]
  | d + 1, k + 1, i, acc, h1, h2, h3, h4 => by
    unfold verditerref06_mark.l0
    have hb := hs _ (mem_getD z53 l i (by omega))
    have hr : refMark (l.drop i) x = markOf x (l.getD i z53) :: refMark (l.drop (i + 1)) x := by rw [dropD z53 l i (by omega)]; rfl
    have ih := fun v => mark_l0 l x hl hs d k (i + 1) (acc ++ [v]) (by omega) (by omega) (by simp [h3]) (by omega)
    rw [if_pos (by omega), if_pos (by omega), show rd_T53 l (i : Int) = l.getD i z53 from rfl, has_f _ x k (by omega) (by omega), has_f _ x k (by omega) (by omega), wrs i (by omega), hr]
    simp only [Option.bind_some, if_pos (show acc.length < 17592186044416 by omega), ih]
    unfold markOf
    cases (l.getD i z53).f0.contains x <;> cases (l.getD i z53).f1.contains x <;> simp
theorem mark_f (l : List S53) (x : Int) (k : Nat) (hl : l.length < 17592186044416) (hs : ∀ y, y ∈ l → y.f0.length ≤ 50 ∧ y.f1.length ≤ 50) (hk : l.length + 51 < k) : verditerref06_mark.f k l x = some (refMark l x) := by
  unfold verditerref06_mark.f
  exact (mark_l0 l x hl hs l.length k 0 [] (by omega) (by omega) rfl hk).trans (by simp)

theorem times_l0 (l : List Int) (x : Int) (hl : l.length < 17592186044416) :
    ∀ (d k i : Nat) (acc : List Int), i ≤ l.length → l.length - i = d → acc.length = i → d < k → verditerref06_times.l0 k l x acc i = some (acc ++ (l.drop i).map fun y => wrap64 (x * y))
  | 0, k + 1, i, acc, h1, h2, _, _ => by
    unfold verditerref06_times.l0
    rw [if_neg (by omega), List.drop_eq_nil_of_le (by omega)]
    simp
  | d + 1, k + 1, i, acc, h1, h2, h3, h4 => by
    unfold verditerref06_times.l0
    have ih := times_l0 l x hl d k (i + 1) (acc ++ [wrap64 (x * l.getD i 0)]) (by omega) (by omega) (by simp [h3]) (by omega)
    rw [if_pos (by omega), if_pos (by omega), if_pos (show acc.length < 17592186044416 by omega), rd_nat, wrs i (by omega), ih, dropD 0 l i (by omega)]
    simp
theorem times_f (l : List Int) (x : Int) (k : Nat) (hl : l.length < 17592186044416) (hk : l.length < k) : verditerref06_times.f k l x = some (l.map fun y => wrap64 (x * y)) := by
  unfold verditerref06_times.f
  exact (times_l0 l x hl l.length k 0 [] (by omega) (by omega) rfl hk).trans (by simp)
theorem isBlank_l0 (l : List Int) (hl : l.length < 9223372036854775807) : ∀ (d k i : Nat), i ≤ l.length → l.length - i = d → d < k → verditerref06_isBlank.l0 k l i = some ((l.drop i).all (· == 0))
  | 0, k + 1, i, h1, h2, _ => by
    unfold verditerref06_isBlank.l0
    rw [if_neg (by omega), List.drop_eq_nil_of_le (by omega)]
    rfl
  | d + 1, k + 1, i, h1, h2, h3 => by
    unfold verditerref06_isBlank.l0
    rw [if_pos (by omega), if_pos (by omega), rd_nat, dropD 0 l i (by omega), List.all_cons, wrs i (by omega)]
    have ih := isBlank_l0 l hl d k (i + 1) (by omega) (by omega) (by omega)
    by_cases hx : l.getD i 0 = 0
    · rw [if_pos hx, hx, ih]; rfl
    · have hbe : (l.getD i 0 == 0) = false := by rw [beq_eq_false_iff_ne]; exact hx
      rw [if_neg hx, hbe]
      rfl
theorem isBlank_f (l : List Int) (k : Nat) (hl : l.length < 9223372036854775807) (hk : l.length < k) : verditerref06_isBlank.f k l = some (l.all (· == 0)) := by
  unfold verditerref06_isBlank.f
  exact (isBlank_l0 l hl l.length k 0 (by omega) (by omega) hk).trans (by simp)
theorem same_l0 (l m : List Int) (hl : l.length < 9223372036854775807) (he : l.length = m.length) : ∀ (d k i : Nat), i ≤ l.length → l.length - i = d → d < k → verditerref06_SameInts.l0 k l m i = some (l.drop i == m.drop i)
  | 0, k + 1, i, h1, h2, _ => by
    unfold verditerref06_SameInts.l0
    rw [if_neg (by omega), List.drop_eq_nil_of_le (by omega), List.drop_eq_nil_of_le (by omega)]
    rfl
  | d + 1, k + 1, i, h1, h2, h3 => by
    unfold verditerref06_SameInts.l0
    rw [if_pos (by omega), if_pos (by omega), if_pos (by omega), rd_nat, rd_nat, dropD 0 l i (by omega), dropD 0 m i (by omega), List.cons_beq_cons, wrs i (by omega)]
    have ih := same_l0 l m hl he d k (i + 1) (by omega) (by omega) (by omega)
    by_cases hx : l.getD i 0 = m.getD i 0
    · have hbe : (l.getD i 0 == m.getD i 0) = true := by rw [beq_iff_eq]; exact hx
      rw [if_pos hx, ih, hbe, Bool.true_and]
    · have hbe : (l.getD i 0 == m.getD i 0) = false := by rw [beq_eq_false_iff_ne]; exact hx
      rw [if_neg hx, hbe]
      rfl
theorem same_f (l m : List Int) (k : Nat) (hl : l.length < 9223372036854775807) (hk : l.length < k) : verditerref06_SameInts.f k l m = some (l == m) := by
  unfold verditerref06_SameInts.f
  by_cases he : l.length = m.length
  · rw [if_pos (by omega)]
    exact (same_l0 l m hl he l.length k 0 (by omega) (by omega) hk).trans (by simp)
  · rw [if_neg (by omega)]
    have : (l == m) = false := by rw [beq_eq_false_iff_ne]; exact fun e => he (by rw [e])
    rw [this]
end Go.Proofs.Ytdbeochifofdoaa.X
end

section
/-! The document's Validate is the program's. -/
namespace Go.Proofs.Ytdbeochifofdoaa.X
open Go.RowKit Go.Proofs.YtdbeochifofdoaaW.PrintWords Go.Proofs.YtdbeochifofdoaaW.PrintLast
set_option linter.unusedVariables false
set_option linter.unusedSimpArgs false

theorem val_l1 (lots : Int) (l : List S53) (i : Nat) (hi : i < l.length) (hm : l.length < 9223372036854775807) (hs : ∀ y, y ∈ l → y.f0.length ≤ 50 ∧ y.f1.length ≤ 50) (K : Nat) (r : Int)
    (hc : ∀ k, K ≤ k → verditerref06_Validate.l0 k lots l ((i + 1 : Nat) : Int) = some r) :
    ∀ (d j k : Nat), j ≤ (l.getD i z53).f0.length → (l.getD i z53).f0.length - j = d → K + d + 60 ≤ k →
      verditerref06_Validate.l1 k lots l i j = some (if ((l.getD i z53).f0.drop j).any (fun n => (l.getD i z53).f1.contains n) = true then 6 else if (l.getD i z53).f0.length = (l.getD i z53).f1.length then r else 5)
  | 0, j, k + 1, h1, h2, h3 => by
    unfold verditerref06_Validate.l1
    rw [if_pos (by omega), if_pos (by omega), show rd_T53 l (i : Int) = l.getD i z53 from rfl, if_neg (by omega), List.drop_eq_nil_of_le (by omega), wrs i (by omega), hc k (by omega)]
    by_cases he : (l.getD i z53).f0.length = (l.getD i z53).f1.length
    · rw [if_pos (by omega), List.any_nil, if_neg (by simp), if_pos he]
    · rw [if_neg (by omega), List.any_nil, if_neg (by simp), if_neg he]
  | d + 1, j, k + 1, h1, h2, h3 => by
    have hb := hs _ (mem_getD z53 l i hi)
    unfold verditerref06_Validate.l1
    have ih := val_l1 lots l i hi hm hs K r hc d (j + 1) k (by omega) (by omega) (by omega)
    rw [if_pos (by omega), if_pos (by omega), show rd_T53 l (i : Int) = l.getD i z53 from rfl, if_pos (by omega), if_pos (by omega), rd_nat, has_f _ _ k (by omega) (by omega), wrs j (by omega), ih, dropD 0 (l.getD i z53).f0 j (by omega), List.any_cons, Option.bind_some]
    cases hq : (l.getD i z53).f1.contains ((l.getD i z53).f0.getD j 0) with
    | true => rw [if_pos rfl, Bool.true_or, if_pos rfl]
    | false => rw [if_neg (by simp), Bool.false_or]
theorem val_l0 (lots : Int) (hl : 1 ≤ lots ∧ lots ≤ 13) (l : List S53) (hm : l.length < 9223372036854775807) (hs : ∀ y, y ∈ l → y.f0.length ≤ 50 ∧ y.f1.length ≤ 50) :
    ∀ (d i k : Nat), i ≤ l.length → l.length - i = d → 200 * (d + 1) ≤ k → verditerref06_Validate.l0 k lots l i = some (vErr lots (l.drop i))
  | 0, i, k + 1, h1, h2, h3 => by
    unfold verditerref06_Validate.l0
    rw [if_neg (by omega), List.drop_eq_nil_of_le (by omega)]
    rfl
  | d + 1, i, k + 2, h1, h2, h3 => by
    have hb := hs _ (mem_getD z53 l i (by omega))
    have hv : vErr lots (l.drop i) = if wErr lots (l.getD i z53) = 0 then vErr lots (l.drop (i + 1)) else wErr lots (l.getD i z53) := by rw [dropD z53 l i (by omega)]; rfl
    have hc : ∀ k, 200 * (d + 1) ≤ k → verditerref06_Validate.l0 k lots l ((i + 1 : Nat) : Int) = some (vErr lots (l.drop (i + 1))) := fun k hk => val_l0 lots hl l hm hs d (i + 1) k (by omega) (by omega) hk
    have h1' := val_l1 lots l i (by omega) hm hs (200 * (d + 1)) _ hc (l.getD i z53).f0.length 0 k (by omega) (by omega) (by omega)
    have hj : ∀ b, verditerref06_Validate.j1 (k + 1) lots l i b = if b = true then some 1 else verditerref06_Validate.l1 k lots l i 0 := fun b => by unfold verditerref06_Validate.j1; rfl
    unfold verditerref06_Validate.l0
    rw [if_pos (by omega), if_pos (by omega), show rd_T53 l (i : Int) = l.getD i z53 from rfl]
    simp only [verditerref06_isSet.f, if_pos hl, Option.bind_some, hj]
    rw [show ((0 : Nat) : Int) = 0 from rfl] at h1'
    rw [h1', hv]
    unfold wErr
    cases isSetB lots (l.getD i z53).f0 <;> cases isSetB lots (l.getD i z53).f1 <;> simp <;> (split <;> simp_all)
theorem refValidate_f (lots : Int) (l : List S53) (hm : l.length < 9223372036854775807) (hs : ∀ y, y ∈ l → y.f0.length ≤ 50 ∧ y.f1.length ≤ 50) (k : Nat) (hk : 800 ≤ k) : verditerref06_Validate.f k lots l = some (pErr lots l) := by
  unfold verditerref06_Validate.f pErr
  rw [rwithin_b, Option.bind_some]
  by_cases hl : 1 ≤ lots ∧ lots ≤ 13
  · have hb : (decide (1 ≤ lots) && decide (lots ≤ 13)) = true := by simp [hl]
    rw [if_pos hb, if_pos hl]
    by_cases h3 : 3 < l.length
    · rw [if_pos (by omega), if_pos h3]
    · rw [if_neg (by omega), if_neg h3]
      exact val_l0 lots hl l hm hs l.length 0 k (by omega) (by omega) (by omega)
  · have hb : ¬ (decide (1 ≤ lots) && decide (lots ≤ 13)) = true := by simpa using hl
    rw [if_neg hb, if_neg hl]
end Go.Proofs.Ytdbeochifofdoaa.X
end

section
-- Written by a program of this session (wip/hook.py, which runs the kit's print.py with contracts proved by hand). Not trusted: Lean checks it.
namespace Go.Proofs.Ytdbeochifofdoaa.X
open Go.RowKit Go.Proofs.YtdbeochifofdoaaW.PrintWords Go.Proofs.YtdbeochifofdoaaW.PrintLast Go.Proofs.YtdbeochifofdoaaW.PrintMore
attribute [local go_sem] max2_int min2_int max_two min_two max_three min_three max_four min_four   -- for this text's walks alone
set_option linter.unusedVariables false
set_option linter.unusedSimpArgs false

/-! ### verditerref06_Tells: function 32 -/
def verditerref06_Tells.f (k : Nat) (a0 : Int) (l1 : List (S53)) : Option (Bool × Int) := (verditerref06_Validate.f k a0 l1).bind fun t234 => (if t234 = 0 then ((verditerref06_tells.f k a0 l1).bind fun t235 => (some (t235, 0))) else (some (false, t234)))
theorem verditerref06_Tells.mono : ∀ a0 a1 k, LeO (verditerref06_Tells.f k a0 a1) (verditerref06_Tells.f (k + 1) a0 a1) := by
  intro a0 a1 k
  unfold verditerref06_Tells.f
  repeat' first
      | (with_reducible exact verditerref06_Validate.mono _ _ _)
      | (with_reducible exact verditerref06_tells.mono _ _ _)
      | (with_reducible exact LeO.refl _)
      | (with_reducible exact LeO.none _)
      | (with_reducible refine LeO.ite ?_ ?_)
      | (with_reducible refine LeO.bind ?_ (fun _ => ?_))
      | exact verditerref06_Validate.mono _ _ _
      | exact verditerref06_tells.mono _ _ _
      | exact LeO.none _
      | refine LeO.ite ?_ ?_
      | refine LeO.bind ?_ (fun _ => ?_)
set_option maxHeartbeats 8000000 in
set_option maxRecDepth 100000 in
theorem verditerref06_Tells.calls (k : Nat) (a0 : Int) (A1 : Option Addr) (c1 : Nat) (l1 : List (S53)) (r1 : Bool) (r2 : Int) (w : World) (hr1 : Kd.C k53 w A1 l1.length l1) (hc1 : l1.length ≤ c1) (h : verditerref06_Tells.f k a0 l1 = some (r1, r2)) :
    Calls Try.prog 32 #[.int .i64 a0, .slice A1 l1.length c1] w fun e w' => e = .returned (.tuple #[.bool r1, .int .i64 r2]) ∧ Below w.heap.size w w' := by
  have HR1 := Aside0.mk hr1
  have HC1 := Aside0.mk hc1
  clear hr1 hc1
  have HB := Aside0.mk (Below.refl w.heap.size w)
  have H : ((verditerref06_Validate.f k a0 l1).bind fun t234 => (if t234 = 0 then ((verditerref06_tells.f k a0 l1).bind fun t235 => (some (t235, 0))) else (some (false, t234)))) = some (r1, r2) := h
  clear h
  replace H := Option.bind_eq_some_iff.mp H
  obtain ⟨t234, A30, H⟩ := H
  replace H : (if t234 = 0 then ((verditerref06_tells.f k a0 l1).bind fun t235 => (some (t235, 0))) else (some (false, t234))) = some (r1, r2) := H
  have A3 := Aside0.mk A30
  clear A30
  by_cases c4 : t234 = 0
  · rw [if_pos c4] at H
    have c4b0 : (t234 == 0) = true := beq_iff_eq.mpr c4
    have c4b1 : (t234 != 0) = false := bne_eq_false_iff_eq.mpr c4
    clear c4
    replace H := Option.bind_eq_some_iff.mp H
    obtain ⟨t235, A50, H⟩ := H
    replace H : (some (t235, 0)) = some (r1, r2) := H
    have A5 := Aside0.mk A50
    clear A50
    simp only [Option.some.injEq, Prod.mk.injEq] at H
    obtain ⟨rfl, rfl⟩ := H
    go_enter Try.func32, Try.ntmps32
    go_wp2_with (first | ((with_reducible refine gate_callee (f := 59) rfl ?_); refine goesL_ (some 9) rfl rfl Try.func59 (by kernel_rfl) rfl #[.int .i64 a0, .slice A1 l1.length c1] rfl (by (try simp only [List.map_toArray, List.map_cons, List.map_nil]); first | done | rfl | (simp only [List.length_drop, List.length_take]; rfl)) ?_; (with_reducible refine (verditerref06_Validate.calls k a0 _ _ l1 t234 _ ?side1 ?side2 A3.out).mono ?_); (case side1 => repeat (first | exact HR1.out | (with_reducible refine Kd.C_alloc ?_ _) | (with_reducible refine Kd.C_drewN ?_ _) | (with_reducible refine Kd.C_drew ?_))); (case side2 => exact HC1.out); rintro e w' ⟨rfl, ⟨nd, rfl⟩⟩; refine ⟨_, rfl, ?_⟩) | ((with_reducible refine gate_callee (f := 62) rfl ?_); refine goesL_ (some 15) rfl rfl Try.func62 (by kernel_rfl) rfl #[.int .i64 a0, .slice A1 l1.length c1] rfl (by (try simp only [List.map_toArray, List.map_cons, List.map_nil]); first | done | rfl | (simp only [List.length_drop, List.length_take]; rfl)) ?_; (with_reducible refine (verditerref06_tells.calls k a0 _ _ l1 t235 _ ?side1 ?side2 A5.out).mono ?_); (case side1 => repeat (first | exact HR1.out | (with_reducible refine Kd.C_alloc ?_ _) | (with_reducible refine Kd.C_drewN ?_ _) | (with_reducible refine Kd.C_drew ?_))); (case side2 => exact HC1.out); rintro e w6 ⟨rfl, hb⟩; refine ⟨_, rfl, ?_⟩; have n0_ := Aside0.mk (below_step (by repeat (first | (with_reducible first | exact HB.out | apply below_alloc | apply pw_below_drewN | apply below_drew1) | exact HB.out)) hb); clear HB; have HB := n0_; clear n0_; (try clear hb); (try clear hb2); (try clear hk); (try clear hi)))
    go_ret2
    exact ⟨by first | rfl | (simp [errW_none, errW_some] <;> rfl) | (simp [*, errW_none, errW_some] <;> rfl), by repeat (first | (with_reducible first | exact HB.out | apply below_alloc | apply pw_below_drewN | apply below_drew1) | exact HB.out)⟩
  · rw [if_neg c4] at H
    have c4b0 : (t234 == 0) = false := beq_eq_false_iff_ne.mpr c4
    have c4b1 : (t234 != 0) = true := bne_iff_ne.mpr c4
    simp only [Option.some.injEq, Prod.mk.injEq] at H
    obtain ⟨rfl, rfl⟩ := H
    go_enter Try.func32, Try.ntmps32
    go_wp2_with (first | ((with_reducible refine gate_callee (f := 59) rfl ?_); refine goesL_ (some 9) rfl rfl Try.func59 (by kernel_rfl) rfl #[.int .i64 a0, .slice A1 l1.length c1] rfl (by (try simp only [List.map_toArray, List.map_cons, List.map_nil]); first | done | rfl | (simp only [List.length_drop, List.length_take]; rfl)) ?_; (with_reducible refine (verditerref06_Validate.calls k a0 _ _ l1 t234 _ ?side1 ?side2 A3.out).mono ?_); (case side1 => repeat (first | exact HR1.out | (with_reducible refine Kd.C_alloc ?_ _) | (with_reducible refine Kd.C_drewN ?_ _) | (with_reducible refine Kd.C_drew ?_))); (case side2 => exact HC1.out); rintro e w' ⟨rfl, ⟨nd, rfl⟩⟩; refine ⟨_, rfl, ?_⟩))
    go_ret2
    exact ⟨by first | rfl | (simp [errW_none, errW_some] <;> rfl) | (simp [*, errW_none, errW_some] <;> rfl), by repeat (first | (with_reducible first | exact HB.out | apply below_alloc | apply pw_below_drewN | apply below_drew1) | exact HB.out)⟩

end Go.Proofs.Ytdbeochifofdoaa.X
end

section
/-! Long; the document's tells. -/
namespace Go.Proofs.Ytdbeochifofdoaa.X
open Go.RowKit Go.Proofs.YtdbeochifofdoaaW.PrintWords Go.Proofs.YtdbeochifofdoaaW.PrintLast
set_option linter.unusedVariables false
set_option linter.unusedSimpArgs false

/-- Has a weighing a long list? -/
def longW (y : S53) : Bool := decide (50 < y.f0.length) || decide (50 < y.f1.length)
def longB (l : List S53) : Bool := decide (50 < l.length) || l.any longW
theorem long_l0 (l : List S53) (hm : l.length < 9223372036854775807) : ∀ (d k i : Nat), i ≤ l.length → l.length - i = d → d < k → verditerlaw06_Long.l0 k l i = some ((l.drop i).any longW)
  | 0, k + 1, i, h1, h2, _ => by
    unfold verditerlaw06_Long.l0
    rw [if_neg (by omega), List.drop_eq_nil_of_le (by omega)]
    rfl
  | d + 1, k + 1, i, h1, h2, h3 => by
    unfold verditerlaw06_Long.l0
    rw [if_pos (by omega), if_pos (by omega), show rd_T53 l (i : Int) = l.getD i z53 from rfl, dropD z53 l i (by omega), List.any_cons, wrs i (by omega)]
    have ih := long_l0 l hm d k (i + 1) (by omega) (by omega) (by omega)
    generalize l.getD i z53 = y
    unfold longW
    by_cases ha : 50 < y.f0.length
    · rw [if_pos (by omega), decide_eq_true ha]; rfl
    · rw [if_neg (by omega), decide_eq_false ha]
      by_cases hb : 50 < y.f1.length
      · rw [if_pos (by omega), decide_eq_true hb]; rfl
      · rw [if_neg (by omega), decide_eq_false hb, ih]; rfl
theorem long_f (l : List S53) (hm : l.length < 9223372036854775807) (k : Nat) (hk : 51 < k) : verditerlaw06_Long.f k l = some (longB l) := by
  unfold verditerlaw06_Long.f longB
  by_cases h : 50 < l.length
  · rw [if_pos (by omega), decide_eq_true h]; rfl
  · rw [if_neg (by omega), decide_eq_false h]
    exact (long_l0 l hm l.length k 0 (by omega) (by omega) (by omega)).trans (by simp)
theorem long_not {l : List S53} (h : longB l = false) : l.length ≤ 50 ∧ ∀ y, y ∈ l → y.f0.length ≤ 50 ∧ y.f1.length ≤ 50 := by
  unfold longB at h
  rw [Bool.or_eq_false_iff] at h
  refine ⟨by simpa using h.1, fun y hy => ?_⟩
  have := (List.any_eq_false.mp h.2) y hy
  unfold longW at this
  simpa using this

/-- Are the marks of the lots i and j the same, or opposite? -/
def pairB (l : List S53) (i j : Nat) : Bool := (refMark l i == refMark l j) || (refMark l i == (refMark l j).map fun y => wrap64 (-1 * y))
theorem tel_l1 (lots : Int) (l : List S53) (hm : l.length ≤ 3) (hs : ∀ y, y ∈ l → y.f0.length ≤ 50 ∧ y.f1.length ≤ 50) (i : Nat) (hi : i < 9223372036854775807) (K : Nat) (r : Bool)
    (hc : ∀ k, K ≤ k → verditerref06_tells.l0 k lots l ((i + 1 : Nat) : Int) = some r) :
    ∀ (d j k : Nat), i - j = d → j ≤ i → K + d + 60 ≤ k → verditerref06_tells.l1 k lots l i (refMark l i) j = some (if (List.range' j d).any (pairB l i) = true then false else r)
  | 0, j, k + 1, h1, h2, h3 => by
    unfold verditerref06_tells.l1
    rw [if_neg (by omega), wrs i hi, hc k (by omega)]
    rfl
  | d + 1, j, k + 1, h1, h2, h3 => by
    have ih := tel_l1 lots l hm hs i hi K r hc d (j + 1) k (by omega) (by omega) (by omega)
    have hlen : ∀ x, (refMark l x).length ≤ 3 := fun x => by unfold refMark; rw [List.length_map]; exact hm
    unfold verditerref06_tells.l1
    rw [if_pos (by omega), mark_f l _ k (by omega) hs (by omega), Option.bind_some, same_f _ _ k (by have := hlen i; omega) (by have := hlen i; omega), Option.bind_some, Option.bind_some,
      times_f _ _ k (by have := hlen j; omega) (by have := hlen j; omega), Option.bind_some, same_f _ _ k (by have := hlen i; omega) (by have := hlen i; omega), Option.bind_some, wrs j (by omega), ih, List.range'_succ, List.any_cons]
    unfold pairB
    cases (refMark l i == refMark l j) <;> cases (refMark l i == (refMark l j).map fun y => wrap64 (-1 * y)) <;> simp
/-- Do the lots from i on, d of them, tell? -/
def telB (l : List S53) : Nat → Nat → Bool
  | 0, _ => true
  | d + 1, i => if (refMark l i).all (· == 0) = true then false else if (List.range' 0 i).any (pairB l i) = true then false else telB l d (i + 1)
theorem telB_succ (l : List S53) (d i : Nat) : telB l (d + 1) i = if (refMark l i).all (· == 0) = true then false else if (List.range' 0 i).any (pairB l i) = true then false else telB l d (i + 1) := rfl
theorem tel_l0 (n : Nat) (hn : n ≤ 13) (l : List S53) (hm : l.length ≤ 3) (hs : ∀ y, y ∈ l → y.f0.length ≤ 50 ∧ y.f1.length ≤ 50) :
    ∀ (d i k : Nat), i + d = n → 100 * (d + 1) ≤ k → verditerref06_tells.l0 k n l i = some (telB l d i)
  | 0, i, k + 1, h1, h2 => by
    unfold verditerref06_tells.l0
    rw [if_neg (by omega)]
    rfl
  | d + 1, i, k + 1, h1, h2 => by
    have hlen : (refMark l i).length ≤ 3 := by unfold refMark; rw [List.length_map]; exact hm
    have h := tel_l1 n l hm hs i (by omega) (100 * (d + 1)) (telB l d (i + 1)) (fun k hk => tel_l0 n hn l hm hs d (i + 1) k (by omega) hk) i 0 k (by omega) (by omega) (by omega)
    rw [show ((0 : Nat) : Int) = 0 from rfl] at h
    unfold verditerref06_tells.l0
    rw [if_pos (by omega), mark_f l _ k (by omega) hs (by omega), Option.bind_some, isBlank_f _ k (by omega) (by omega), Option.bind_some, h]
    rw [telB_succ]
    split <;> rfl
theorem refTells_f (lots : Int) (l : List S53) (hm : l.length < 9223372036854775807) (hs : ∀ y, y ∈ l → y.f0.length ≤ 50 ∧ y.f1.length ≤ 50) (k : Nat) (hk : 2000 ≤ k) :
    verditerref06_Tells.f k lots l = some (if pErr lots l = 0 then (telB l lots.toNat 0, 0) else (false, pErr lots l)) := by
  unfold verditerref06_Tells.f
  rw [refValidate_f lots l hm hs k (by omega), Option.bind_some]
  by_cases h : pErr lots l = 0
  · rw [if_pos h, if_pos h]
    have hp : (1 ≤ lots ∧ lots ≤ 13) ∧ l.length ≤ 3 := by
      unfold pErr at h
      split at h
      · rename_i h1
        split at h
        · cases h
        · exact ⟨h1, by omega⟩
      · cases h
    obtain ⟨n, rfl⟩ := Int.eq_ofNat_of_zero_le (show 0 ≤ lots by omega)
    unfold verditerref06_tells.f
    have := tel_l0 n (by omega) l hp.2 hs n 0 k (by omega) (by omega)
    rw [show ((0 : Nat) : Int) = 0 from rfl] at this
    rw [this]
    rfl
  · rw [if_neg h, if_neg h]
end Go.Proofs.Ytdbeochifofdoaa.X
end

section
/-! The program's marks are the document's. -/
namespace Go.Proofs.Ytdbeochifofdoaa.X
open Go.RowKit Go.Proofs.YtdbeochifofdoaaW.PrintWords Go.Proofs.YtdbeochifofdoaaW.PrintLast
set_option linter.unusedVariables false
set_option linter.unusedSimpArgs false

theorem fsetl_at (k : Nat) (v : Int) : ∀ (l : List Int) (f : Nat → Nat → Int) (a b : Nat), (∀ x, x ∈ l → 0 ≤ x) → fsetl k v f l a b = if b = k ∧ l.contains (a : Int) = true then v else f a b
  | [], f, a, b, _ => by simp [fsetl]
  | x :: xs, f, a, b, h => by
    have hx : 0 ≤ x := h x List.mem_cons_self
    rw [fsetl, fsetl_at k v xs _ a b (fun y hy => h y (List.mem_cons_of_mem _ hy)), List.contains_cons]
    by_cases hb : b = k
    · subst hb
      cases hc : xs.contains (a : Int) with
      | true => simp
      | false =>
        unfold upd
        by_cases he : a = x.toNat
        · have h1 : ((a : Int) == x) = true := by rw [beq_iff_eq]; omega
          rw [h1]; simp [he]
        · have h1 : ((a : Int) == x) = false := by rw [beq_eq_false_iff_ne]; omega
          simp [he, h1]
    · simp [hb, upd]
/-- What a weighing writes into the row a. -/
def cellOf (y : S53) (a v : Int) : Int := if y.f1.contains a = true then -1 else if y.f0.contains a = true then 1 else v
theorem marksF_at : ∀ (l : List S53) (f : Nat → Nat → Int) (k a b : Nat), (∀ y, y ∈ l → (∀ x, x ∈ y.f0 → 0 ≤ x) ∧ ∀ x, x ∈ y.f1 → 0 ≤ x) →
    marksF f k l a b = if k ≤ b ∧ b < k + l.length then cellOf (l.getD (b - k) z53) a (f a b) else f a b
  | [], f, k, a, b, _ => by
    rw [if_neg (by rw [List.length_nil]; omega)]
    rfl
  | y :: ys, f, k, a, b, h => by
    have hy := h y List.mem_cons_self
    rw [marksF, marksF_at ys _ (k + 1) a b (fun z hz => h z (List.mem_cons_of_mem _ hz)), fsetl_at k (-1) y.f1 _ a b hy.2, fsetl_at k 1 y.f0 f a b hy.1]
    by_cases hb : b = k
    · subst hb
      rw [if_neg (by omega), if_pos (show b ≤ b ∧ b < b + (y :: ys).length by rw [List.length_cons]; omega), Nat.sub_self, List.getD_cons_zero]
      unfold cellOf
      simp
    · by_cases hr : k + 1 ≤ b ∧ b < k + 1 + ys.length
      · rw [if_pos hr, if_pos (show k ≤ b ∧ b < k + (y :: ys).length by rw [List.length_cons]; omega), show b - k = (b - (k + 1)) + 1 by omega]
        simp [hb, List.getD_cons_succ]
      · rw [if_neg hr, if_neg (show ¬ (k ≤ b ∧ b < k + (y :: ys).length) by rw [List.length_cons]; omega)]
        simp [hb]
end Go.Proofs.Ytdbeochifofdoaa.X
end

section
/-! bad finds nothing just if the plan tells. -/
namespace Go.Proofs.Ytdbeochifofdoaa.X
open Go.RowKit Go.Proofs.YtdbeochifofdoaaW.PrintWords Go.Proofs.YtdbeochifofdoaaW.PrintLast
set_option linter.unusedVariables false
set_option linter.unusedSimpArgs false

/-- A lot's mark, as three numbers. -/
def mk3 (l : List S53) (n : Nat) : S70 := ⟨((refMark l n).getD 0 0), ((refMark l n).getD 1 0), ((refMark l n).getD 2 0)⟩
theorem cellOf_mark (y : S53) (n : Nat) : cellOf y n 0 = markOf n y := rfl
theorem marksF_mk (l : List S53) (hp : ∀ y, y ∈ l → (∀ x, x ∈ y.f0 → 0 ≤ x) ∧ ∀ x, x ∈ y.f1 → 0 ≤ x) (n k : Nat) : marksF (fun _ _ => 0) 0 l n k = (refMark l n).getD k 0 := by
  rw [marksF_at l _ 0 n k hp]
  by_cases h : k < l.length
  · rw [if_pos (by omega), cellOf_mark]
    simp [refMark, List.getD_eq_getElem?_getD, List.getElem?_map, List.getElem?_eq_getElem h]
  · rw [if_neg (by omega)]
    simp [refMark, List.getD_eq_getElem?_getD, List.getElem?_eq_none (by simpa using h : l.length ≤ k)]
theorem marksL_mk (lots : Int) (l : List S53) (hp : ∀ y, y ∈ l → (∀ x, x ∈ y.f0 → 0 ≤ x) ∧ ∀ x, x ∈ y.f1 → 0 ≤ x) : marksL lots l = (List.range lots.toNat).map (mk3 l) := by
  unfold marksL rowsOf mk3
  simp only [marksF_mk l hp]
theorem markOf_small (n : Int) (y : S53) : -1 ≤ markOf n y ∧ markOf n y ≤ 1 := by
  unfold markOf
  split
  · decide
  · split <;> decide
theorem isZ_mk (l : List S53) (n : Nat) (hl : l.length ≤ 3) : isZ (mk3 l n) = (refMark l n).all (· == 0) := by
  match l, hl with
  | [], _ => rfl
  | [a], _ => simp [isZ, mk3, refMark]
  | [a, b], _ => simp [isZ, mk3, refMark]
  | [a, b, c], _ => simp [isZ, mk3, refMark, Bool.and_assoc]
theorem wr_small {v : Int} (h : -1 ≤ v ∧ v ≤ 1) : wrap64 (v * 1) = v ∧ wrap64 (v * -1) = -v ∧ wrap64 (-1 * v) = -v := by
  refine ⟨?_, ?_, ?_⟩
  · rw [Int.mul_one]; exact wr_of (by omega) (by omega)
  · rw [show v * -1 = -v by omega]; exact wr_of (by omega) (by omega)
  · rw [show -1 * v = -v by omega]; exact wr_of (by omega) (by omega)
end Go.Proofs.Ytdbeochifofdoaa.X
end

section
/-! bad finds nothing just if the document's tells. -/
namespace Go.Proofs.Ytdbeochifofdoaa.X
open Go.RowKit Go.Proofs.YtdbeochifofdoaaW.PrintWords Go.Proofs.YtdbeochifofdoaaW.PrintLast
set_option linter.unusedVariables false
set_option linter.unusedSimpArgs false

theorem sm_pos {x y : Int} (hx : -1 ≤ x ∧ x ≤ 1) : (y == wrap64 (x * 1)) = (x == y) := by
  rw [(wr_small hx).1]; exact BEq.comm
theorem sm_neg {x y : Int} (hx : -1 ≤ x ∧ x ≤ 1) (hy : -1 ≤ y ∧ y ≤ 1) : (y == wrap64 (x * -1)) = (x == wrap64 (-1 * y)) := by
  rw [(wr_small hx).2.1, (wr_small hy).2.2]
  rw [Bool.eq_iff_iff, beq_iff_eq, beq_iff_eq]
  omega
theorem eqTim_pos (l : List S53) (hl : l.length ≤ 3) (i j : Nat) : eqTim (mk3 l j) (mk3 l i) 1 = (refMark l i == refMark l j) := by
  have h0 : ((0 : Int) == wrap64 (0 * 1)) = true := by rw [(wr_small (v := 0) (by omega)).1]; rfl
  have hn : (([] : List Int) == []) = true := rfl
  match l, hl with
  | [], _ => simp only [eqTim, mk3, refMark, List.map_nil, List.getD_nil, h0, hn, Bool.and_true]
  | [a], _ => simp only [eqTim, mk3, refMark, List.map_cons, List.map_nil, List.getD_cons_zero, List.getD_cons_succ, List.getD_nil, h0, sm_pos (markOf_small _ _), List.cons_beq_cons, hn, Bool.and_true]
  | [a, b], _ => simp only [eqTim, mk3, refMark, List.map_cons, List.map_nil, List.getD_cons_zero, List.getD_cons_succ, List.getD_nil, h0, sm_pos (markOf_small _ _), List.cons_beq_cons, hn, Bool.and_true]
  | [a, b, c], _ => simp only [eqTim, mk3, refMark, List.map_cons, List.map_nil, List.getD_cons_zero, List.getD_cons_succ, List.getD_nil, h0, sm_pos (markOf_small _ _), List.cons_beq_cons, hn, Bool.and_true]
theorem eqTim_neg (l : List S53) (hl : l.length ≤ 3) (i j : Nat) : eqTim (mk3 l j) (mk3 l i) (-1) = (refMark l i == (refMark l j).map fun y => wrap64 (-1 * y)) := by
  have h0 : ((0 : Int) == wrap64 (0 * -1)) = true := by rw [(wr_small (v := 0) (by omega)).2.1]; rfl
  have hn : (([] : List Int) == []) = true := rfl
  match l, hl with
  | [], _ => simp only [eqTim, mk3, refMark, List.map_nil, List.getD_nil, h0, hn, Bool.and_true]
  | [a], _ => simp only [eqTim, mk3, refMark, List.map_cons, List.map_nil, List.getD_cons_zero, List.getD_cons_succ, List.getD_nil, h0, sm_neg (markOf_small _ _) (markOf_small _ _), List.cons_beq_cons, hn, Bool.and_true]
  | [a, b], _ => simp only [eqTim, mk3, refMark, List.map_cons, List.map_nil, List.getD_cons_zero, List.getD_cons_succ, List.getD_nil, h0, sm_neg (markOf_small _ _) (markOf_small _ _), List.cons_beq_cons, hn, Bool.and_true]
  | [a, b, c], _ => simp only [eqTim, mk3, refMark, List.map_cons, List.map_nil, List.getD_cons_zero, List.getD_cons_succ, List.getD_nil, h0, sm_neg (markOf_small _ _) (markOf_small _ _), List.cons_beq_cons, hn, Bool.and_true]
theorem pair_eq (l : List S53) (hl : l.length ≤ 3) (i j : Nat) : (eqTim (mk3 l j) (mk3 l i) 1 || eqTim (mk3 l j) (mk3 l i) (-1)) = pairB l i j := by
  rw [eqTim_pos l hl, eqTim_neg l hl]; rfl
theorem badJ_none (m : S70) (i : Int) : ∀ (os : List S70) (j : Int), (badJ m i os j).isNone = !(os.any fun o => eqTim o m 1 || eqTim o m (-1))
  | [], _ => rfl
  | o :: os, j => by
    rw [badJ, List.any_cons]
    cases h1 : eqTim o m 1 with
    | true => rfl
    | false =>
      cases h2 : eqTim o m (-1) with
      | true => rfl
      | false =>
        rw [if_neg (by simp), if_neg (by simp), badJ_none m i os]
        rfl
theorem badI_none (l : List S53) (hl : l.length ≤ 3) (n : Nat) : ∀ (d i : Nat), i + d = n →
    (badI ((List.range n).map (mk3 l)) (((List.range n).map (mk3 l)).drop i) i).isNone = telB l d i
  | 0, i, h => by
    rw [List.drop_eq_nil_of_le (by simp; omega)]
    rfl
  | d + 1, i, h => by
    have ih := badI_none l hl n d (i + 1) (by omega)
    have ht : (((List.range n).map (mk3 l)).take i) = (List.range i).map (mk3 l) := by
      rw [← List.map_take, List.take_range, Nat.min_eq_left (by omega)]
    have hd : ((List.range n).map (mk3 l)).drop i = mk3 l i :: ((List.range n).map (mk3 l)).drop (i + 1) := by
      rw [List.drop_eq_getElem_cons (by simp; omega)]
      simp
    have hj : (badJ (mk3 l i) i ((List.range i).map (mk3 l)) 0).isNone = !((List.range' 0 i).any (pairB l i)) := by
      rw [badJ_none, List.any_map, List.range_eq_range']
      congr 2
      funext j
      exact pair_eq l hl i j
    rw [hd, badI, telB_succ, ht, isZ_mk l i hl]
    cases (refMark l i).all (· == 0) with
    | true => rfl
    | false =>
      rw [if_neg (by simp), if_neg (by simp)]
      generalize hq : badJ (mk3 l i) i ((List.range i).map (mk3 l)) 0 = q at *
      cases q with
      | none =>
        have : (List.range' 0 i).any (pairB l i) = false := by simpa using hj
        rw [this, if_neg (by simp)]
        exact ih
      | some v =>
        have : (List.range' 0 i).any (pairB l i) = true := by simpa using hj
        rw [this, if_pos rfl]
        rfl
theorem badOut_some (r : Option (Int × Int × Int × Int)) : (badOut r).2.2.2.2 = !r.isNone := by
  match r with
  | none => rfl
  | some (a, b, c, d) => rfl
theorem okP_pos {lots : Int} {l : List S53} (h : OkP lots l) : ∀ y, y ∈ l → (∀ x, x ∈ y.f0 → 0 ≤ x) ∧ ∀ x, x ∈ y.f1 → 0 ≤ x :=
  fun y hy => ⟨fun x hx => ((h.each y hy).left x hx).1, fun x hx => ((h.each y hy).right x hx).1⟩
theorem badI_tel {lots : Int} {l : List S53} (hp : pErr lots l = 0) : (badI (marksL lots l) (marksL lots l) 0).isNone = telB l lots.toNat 0 := by
  have ok := pErr_ok hp
  rw [marksL_mk lots l (okP_pos ok)]
  have := badI_none l ok.few lots.toNat lots.toNat 0 (by omega)
  simpa using this
theorem bad_tel {lots : Int} {l : List S53} (hp : pErr lots l = 0) : ∃ a b c d, weigh_bad.f lots l = some (a, b, c, d, !telB l lots.toNat 0) := by
  unfold weigh_bad.f
  rw [if_pos hp]
  have hb : (badOut (badI (marksL lots l) (marksL lots l) 0)).2.2.2.2 = !telB l lots.toNat 0 := by rw [badOut_some, badI_tel hp]
  generalize badOut (badI (marksL lots l) (marksL lots l) 0) = r at *
  obtain ⟨a, b, c, d, e⟩ := r
  obtain rfl : e = _ := hb
  exact ⟨a, b, c, d, rfl⟩
theorem Tells_f (lots : Int) (l : List S53) : weigh_Tells.f lots l = some (if pErr lots l = 0 then (telB l lots.toNat 0, 0) else (false, pErr lots l)) := by
  unfold weigh_Tells.f weigh_Validate.f
  rw [Option.bind_some]
  by_cases hp : pErr lots l = 0
  · rw [if_pos hp, if_pos hp]
    obtain ⟨a, b, c, d, h⟩ := bad_tel hp
    rw [h, Option.bind_some, Bool.not_not]
  · rw [if_neg hp, if_neg hp]
end Go.Proofs.Ytdbeochifofdoaa.X
end

section
-- Written by a program of this session (wip/hook.py, which runs the kit's print.py with contracts proved by hand). Not trusted: Lean checks it.
namespace Go.Proofs.Ytdbeochifofdoaa.X
open Go.RowKit Go.Proofs.YtdbeochifofdoaaW.PrintWords Go.Proofs.YtdbeochifofdoaaW.PrintLast Go.Proofs.YtdbeochifofdoaaW.PrintMore
attribute [local go_sem] max2_int min2_int max_two min_two max_three min_three max_four min_four   -- for this text's walks alone
set_option linter.unusedVariables false
set_option linter.unusedSimpArgs false

/-! ### verditerref06_cased: function 78 -/
mutual
def verditerref06_cased.l0 : Nat → Int → List (S35) → Int → Option (Int)
  | 0, _, _, _ => none
  | k + 1, x0, x2, x8 => if x8 < (x2.length : Int) then (if 0 ≤ x8 then ((verditerref06_within.f ((rd_T35 x2 x8).f0) 0 (wrap64 (x0 - 1))).bind fun t257 => (if t257 = true then (verditerref06_cased.l0 k x0 x2 (wrap64 (x8 + 1))) else (some 4))) else (none)) else (verditerref06_cased.l1 k x2 0)
def verditerref06_cased.l1 : Nat → List (S35) → Int → Option (Int)
  | 0, _, _ => none
  | k + 1, x2, x9 => if x9 < (x2.length : Int) then (if 0 ≤ x9 then (if ((rd_T35 x2 x9).f1) = 1 then (verditerref06_cased.l1 k x2 (wrap64 (x9 + 1))) else (if ((rd_T35 x2 x9).f1) = (-1) then (verditerref06_cased.l1 k x2 (wrap64 (x9 + 1))) else (some 1))) else (none)) else (some 0)
end
def verditerref06_cased.f (k : Nat) (a0 : Int) (l1 : List (S53)) (l2 : List (S35)) : Option (Int) := (verditerref06_Validate.f k a0 l1).bind fun t255 => (if t255 = 0 then (verditerref06_cased.l0 k a0 l2 0) else (some t255))
theorem verditerref06_cased.mono_l : ∀ k, (∀ y0 y1 y2, LeO (verditerref06_cased.l0 k y0 y1 y2) (verditerref06_cased.l0 (k + 1) y0 y1 y2)) ∧ (∀ y0 y1, LeO (verditerref06_cased.l1 k y0 y1) (verditerref06_cased.l1 (k + 1) y0 y1))
  | 0 => ⟨fun _ _ _ r h => by simp [verditerref06_cased.l0] at h, fun _ _ r h => by simp [verditerref06_cased.l1] at h⟩
  | k + 1 => by
    obtain ⟨ih0, ih1⟩ := verditerref06_cased.mono_l k
    refine ⟨?_, ?_⟩
    · intro y0 y1 y2
      unfold verditerref06_cased.l0
      repeat' first
      | (with_reducible exact ih0 _ _ _)
      | (with_reducible exact ih1 _ _)
      | (with_reducible exact verditerref06_Validate.mono _ _ _)
      | (with_reducible exact LeO.refl _)
      | (with_reducible exact LeO.none _)
      | (with_reducible refine LeO.ite ?_ ?_)
      | (with_reducible refine LeO.bind ?_ (fun _ => ?_))
      | exact ih0 _ _ _
      | exact ih1 _ _
      | exact verditerref06_Validate.mono _ _ _
      | exact LeO.none _
      | refine LeO.ite ?_ ?_
      | refine LeO.bind ?_ (fun _ => ?_)
    · intro y0 y1
      unfold verditerref06_cased.l1
      repeat' first
      | (with_reducible exact ih0 _ _ _)
      | (with_reducible exact ih1 _ _)
      | (with_reducible exact verditerref06_Validate.mono _ _ _)
      | (with_reducible exact LeO.refl _)
      | (with_reducible exact LeO.none _)
      | (with_reducible refine LeO.ite ?_ ?_)
      | (with_reducible refine LeO.bind ?_ (fun _ => ?_))
      | exact ih0 _ _ _
      | exact ih1 _ _
      | exact verditerref06_Validate.mono _ _ _
      | exact LeO.none _
      | refine LeO.ite ?_ ?_
      | refine LeO.bind ?_ (fun _ => ?_)
theorem verditerref06_cased.mono : ∀ a0 a1 a2 k, LeO (verditerref06_cased.f k a0 a1 a2) (verditerref06_cased.f (k + 1) a0 a1 a2) := by
  intro a0 a1 a2 k
  obtain ⟨ih0, ih1⟩ := verditerref06_cased.mono_l k
  unfold verditerref06_cased.f
  repeat' first
      | (with_reducible exact ih0 _ _ _)
      | (with_reducible exact ih1 _ _)
      | (with_reducible exact verditerref06_Validate.mono _ _ _)
      | (with_reducible exact LeO.refl _)
      | (with_reducible exact LeO.none _)
      | (with_reducible refine LeO.ite ?_ ?_)
      | (with_reducible refine LeO.bind ?_ (fun _ => ?_))
      | exact ih0 _ _ _
      | exact ih1 _ _
      | exact verditerref06_Validate.mono _ _ _
      | exact LeO.none _
      | refine LeO.ite ?_ ?_
      | refine LeO.bind ?_ (fun _ => ?_)
set_option maxHeartbeats 8000000 in
set_option maxRecDepth 100000 in
theorem verditerref06_cased.calls (k : Nat) (a0 : Int) (A1 : Option Addr) (c1 : Nat) (l1 : List (S53)) (A2 : Option Addr) (c2 : Nat) (l2 : List (S35)) (r : Int) (w : World) (hr1 : Kd.C k53 w A1 l1.length l1) (hc1 : l1.length ≤ c1) (hr2 : Kd.C k35 w A2 l2.length l2) (hc2 : l2.length ≤ c2) (h : verditerref06_cased.f k a0 l1 l2 = some r) :
    Calls Try.prog 78 #[.int .i64 a0, .slice A1 l1.length c1, .slice A2 l2.length c2] w fun e w' => e = .returned (.int .i64 r) ∧ Drawn0 w w' := by
  have HR1 := Aside0.mk hr1
  have HC1 := Aside0.mk hc1
  clear hr1 hc1
  have HR2 := Aside0.mk hr2
  have HC2 := Aside0.mk hc2
  clear hr2 hc2
  have H : ((verditerref06_Validate.f k a0 l1).bind fun t255 => (if t255 = 0 then (verditerref06_cased.l0 k a0 l2 0) else (some t255))) = some r := h
  clear h
  replace H := Option.bind_eq_some_iff.mp H
  obtain ⟨t255, A40, H⟩ := H
  replace H : (if t255 = 0 then (verditerref06_cased.l0 k a0 l2 0) else (some t255)) = some r := H
  have A4 := Aside0.mk A40
  clear A40
  by_cases c5 : t255 = 0
  · rw [if_pos c5] at H
    have c5b0 : (t255 == 0) = true := beq_iff_eq.mpr c5
    have c5b1 : (t255 != 0) = false := bne_eq_false_iff_eq.mpr c5
    clear c5
    have H' := Aside0.mk H
    clear H
    go_enter Try.func78, Try.ntmps78
    go_wp2_with (first | ((with_reducible refine gate_callee (f := 59) rfl ?_); refine goesL_ (some 12) rfl rfl Try.func59 (by kernel_rfl) rfl #[.int .i64 a0, .slice A1 l1.length c1] rfl (by (try simp only [List.map_toArray, List.map_cons, List.map_nil]); first | done | rfl | (simp only [List.length_drop, List.length_take]; rfl)) ?_; (with_reducible refine (verditerref06_Validate.calls k a0 _ _ l1 t255 _ ?side1 ?side2 A4.out).mono ?_); (case side1 => repeat (first | exact HR1.out | (with_reducible refine Kd.C_alloc ?_ _) | (with_reducible refine Kd.C_drewN ?_ _) | (with_reducible refine Kd.C_drew ?_))); (case side2 => exact HC1.out); rintro e w' ⟨rfl, ⟨nd, rfl⟩⟩; refine ⟨_, rfl, ?_⟩))
    go_loopg [8] k (fun kq v8 w' => ∃ (x8_1 : Int), v8 = .int .i64 x8_1 ∧ Aside0 (verditerref06_cased.l0 kq a0 l2 x8_1 = some r) ∧ Aside0 (kq ≤ k) ∧ Drawn0 w w')
    case atStart => exact ⟨(0), (by first | rfl | (simp; done) | (simp [*]; done)), H', ⟨Nat.le_refl _⟩, by repeat (first | exact Drawn0.refl _ | apply Drawn0.step)⟩
    case round =>
      clear H'
      try clear c1
      try clear c2
      try clear p2
      try clear c5
      try clear c5b0
      try clear c5b1
      obtain ⟨x8_1, rfl, HA, HK1, ⟨m1, rfl⟩⟩ := hrel
      cases gk with
      | zero => exact absurd HA.out (by simp [verditerref06_cased.l0])
      | succ k1 =>
        have H := HA.out
        clear HA
        simp only [verditerref06_cased.l0] at H
        by_cases c6 : x8_1 < (l2.length : Int)
        · rw [if_pos c6] at H
          have c6b0 : decide (x8_1 < (l2.length : Int)) = true := decide_eq_true c6
          clear c6
          by_cases c7 : 0 ≤ x8_1
          · rw [if_pos c7] at H
            have c7b0 : decide (0 ≤ x8_1) = true := decide_eq_true c7
            clear c7
            replace H := Option.bind_eq_some_iff.mp H
            obtain ⟨t257, A80, H⟩ := H
            replace H : (if t257 = true then (verditerref06_cased.l0 k1 a0 l2 (wrap64 (x8_1 + 1))) else (some 4)) = some r := H
            have A8 := Aside0.mk A80
            clear A80
            by_cases c9 : t257 = true
            · subst c9
              have H1 : (verditerref06_cased.l0 k1 a0 l2 (wrap64 (x8_1 + 1))) = some r := by rw [if_pos rfl] at H; exact H
              clear H
              have H := H1
              clear H1
              have H' := Aside0.mk H
              clear H
              have p256 : 0 ≤ (x8_1 : Int) := of_decide_eq_true (by first | (with_reducible assumption) | assumption)
              have q256 : x8_1 < (l2.length : Int) := of_decide_eq_true (by first | (with_reducible assumption) | assumption)
              obtain ⟨ad256, e256, hx256_0, hx256_1⟩ := at_T35 HR2.out x8_1 p256 q256
              cases e256
              replace p256 := eq_true p256
              replace q256 := eq_true q256
              go_wp2_with (first | ((with_reducible refine gate_callee (f := 82) rfl ?_); refine goesL_ (some 29) rfl rfl Try.func82 (by kernel_rfl) rfl #[.int .i64 ((rd_T35 l2 x8_1).f0), .int .i64 0, .int .i64 (wrap64 (a0 - 1))] rfl (by (try simp only [List.map_toArray, List.map_cons, List.map_nil]); first | done | rfl | (simp only [List.length_drop, List.length_take]; rfl)) ?_; (with_reducible refine (verditerref06_within.calls ((rd_T35 l2 x8_1).f0) 0 (wrap64 (a0 - 1)) true _ A8.out).mono ?_); rintro e w' ⟨rfl, ⟨nd, rfl⟩⟩; refine ⟨_, rfl, ?_⟩))
              go_roundg k1
              case measure => have := HK1.out; omega
              case rel => exact ⟨(wrap64 (x8_1 + 1)), (by first | rfl | (simp; done) | (simp [*]; done)), H', ⟨by have := HK1.out; omega⟩, by repeat (first | exact Drawn0.refl _ | apply Drawn0.step)⟩
            · replace c9 := Bool.eq_false_iff.mpr c9
              subst c9
              have H1 : (some 4) = some r := by rw [if_neg (show ¬ (false = true) by decide)] at H; exact H
              clear H
              have H := H1
              clear H1
              obtain rfl := Option.some.inj H
              have p256 : 0 ≤ (x8_1 : Int) := of_decide_eq_true (by first | (with_reducible assumption) | assumption)
              have q256 : x8_1 < (l2.length : Int) := of_decide_eq_true (by first | (with_reducible assumption) | assumption)
              obtain ⟨ad256, e256, hx256_0, hx256_1⟩ := at_T35 HR2.out x8_1 p256 q256
              cases e256
              replace p256 := eq_true p256
              replace q256 := eq_true q256
              go_wp2_with (first | ((with_reducible refine gate_callee (f := 82) rfl ?_); refine goesL_ (some 29) rfl rfl Try.func82 (by kernel_rfl) rfl #[.int .i64 ((rd_T35 l2 x8_1).f0), .int .i64 0, .int .i64 (wrap64 (a0 - 1))] rfl (by (try simp only [List.map_toArray, List.map_cons, List.map_nil]); first | done | rfl | (simp only [List.length_drop, List.length_take]; rfl)) ?_; (with_reducible refine (verditerref06_within.calls ((rd_T35 l2 x8_1).f0) 0 (wrap64 (a0 - 1)) false _ A8.out).mono ?_); rintro e w' ⟨rfl, ⟨nd, rfl⟩⟩; refine ⟨_, rfl, ?_⟩))
              go_ret
              exact ⟨by first | rfl | (simp; done) | (simp [*]; done), by repeat (first | exact Drawn0.refl _ | apply Drawn0.step)⟩
          · rw [if_neg c7] at H
            exact absurd H (by simp)
        · rw [if_neg c6] at H
          have c6b0 : decide (x8_1 < (l2.length : Int)) = false := decide_eq_false c6
          clear c6
          have H' := Aside0.mk H
          clear H
          go_wp2
          go_loopg [9] k1 (fun kq v9 w' => ∃ (x9_2 : Int), v9 = .int .i64 x9_2 ∧ Aside0 (verditerref06_cased.l1 kq l2 x9_2 = some r) ∧ Aside0 (kq ≤ k1) ∧ Drawn0 w w')
          case atStart => exact ⟨(0), (by first | rfl | (simp; done) | (simp [*]; done)), H', ⟨Nat.le_refl _⟩, by repeat (first | exact Drawn0.refl _ | apply Drawn0.step)⟩
          case round =>
            clear H'
            try clear c1
            try clear c2
            try clear p2
            try clear q2
            try clear hx2
            try clear c5
            try clear c5b0
            try clear c5b1
            try clear c6
            try clear c6b0
            try clear p6
            try clear c7
            try clear c7b0
            try clear c8
            try clear c9
            try clear hx256_0
            try clear hx256_1
            try clear p2
            try clear p256
            try clear q256
            obtain ⟨x9_2, rfl, HA, HK2, ⟨m2, rfl⟩⟩ := hrel
            cases gk with
            | zero => exact absurd HA.out (by simp [verditerref06_cased.l1])
            | succ k2 =>
              have H := HA.out
              clear HA
              simp only [verditerref06_cased.l1] at H
              by_cases c10 : x9_2 < (l2.length : Int)
              · rw [if_pos c10] at H
                have c10b0 : decide (x9_2 < (l2.length : Int)) = true := decide_eq_true c10
                clear c10
                by_cases c11 : 0 ≤ x9_2
                · rw [if_pos c11] at H
                  have c11b0 : decide (0 ≤ x9_2) = true := decide_eq_true c11
                  clear c11
                  by_cases c12 : ((rd_T35 l2 x9_2).f1) = 1
                  · rw [if_pos c12] at H
                    have c12b0 : (((rd_T35 l2 x9_2).f1) == 1) = true := beq_iff_eq.mpr c12
                    have c12b1 : (((rd_T35 l2 x9_2).f1) != 1) = false := bne_eq_false_iff_eq.mpr c12
                    clear c12
                    have H' := Aside0.mk H
                    clear H
                    have p258 : 0 ≤ (x9_2 : Int) := of_decide_eq_true (by first | (with_reducible assumption) | assumption)
                    have q258 : x9_2 < (l2.length : Int) := of_decide_eq_true (by first | (with_reducible assumption) | assumption)
                    obtain ⟨ad258, e258, hx258_0, hx258_1⟩ := at_T35 HR2.out x9_2 p258 q258
                    cases e258
                    replace p258 := eq_true p258
                    replace q258 := eq_true q258
                    go_wp2
                    go_roundg k2
                    case measure => have := HK1.out; have := HK2.out; omega
                    case rel => exact ⟨(wrap64 (x9_2 + 1)), (by first | rfl | (simp; done) | (simp [*]; done)), H', ⟨by have := HK1.out; have := HK2.out; omega⟩, by repeat (first | exact Drawn0.refl _ | apply Drawn0.step)⟩
                  · rw [if_neg c12] at H
                    have c12b0 : (((rd_T35 l2 x9_2).f1) == 1) = false := beq_eq_false_iff_ne.mpr c12
                    have c12b1 : (((rd_T35 l2 x9_2).f1) != 1) = true := bne_iff_ne.mpr c12
                    by_cases c13 : ((rd_T35 l2 x9_2).f1) = (-1)
                    · rw [if_pos c13] at H
                      have c13b0 : (((rd_T35 l2 x9_2).f1) == (-1)) = true := beq_iff_eq.mpr c13
                      have c13b1 : (((rd_T35 l2 x9_2).f1) != (-1)) = false := bne_eq_false_iff_eq.mpr c13
                      clear c13
                      have H' := Aside0.mk H
                      clear H
                      have p258 : 0 ≤ (x9_2 : Int) := of_decide_eq_true (by first | (with_reducible assumption) | assumption)
                      have q258 : x9_2 < (l2.length : Int) := of_decide_eq_true (by first | (with_reducible assumption) | assumption)
                      obtain ⟨ad258, e258, hx258_0, hx258_1⟩ := at_T35 HR2.out x9_2 p258 q258
                      cases e258
                      replace p258 := eq_true p258
                      replace q258 := eq_true q258
                      have p259 : 0 ≤ (x9_2 : Int) := of_decide_eq_true (by first | (with_reducible assumption) | assumption)
                      have q259 : x9_2 < (l2.length : Int) := of_decide_eq_true (by first | (with_reducible assumption) | assumption)
                      obtain ⟨ad259, e259, hx259_0, hx259_1⟩ := at_T35 HR2.out x9_2 p259 q259
                      obtain rfl : ad258 = ad259 := (by injection e259)
                      replace p259 := eq_true p259
                      replace q259 := eq_true q259
                      go_wp2
                      go_roundg k2
                      case measure => have := HK1.out; have := HK2.out; omega
                      case rel => exact ⟨(wrap64 (x9_2 + 1)), (by first | rfl | (simp; done) | (simp [*]; done)), H', ⟨by have := HK1.out; have := HK2.out; omega⟩, by repeat (first | exact Drawn0.refl _ | apply Drawn0.step)⟩
                    · rw [if_neg c13] at H
                      have c13b0 : (((rd_T35 l2 x9_2).f1) == (-1)) = false := beq_eq_false_iff_ne.mpr c13
                      have c13b1 : (((rd_T35 l2 x9_2).f1) != (-1)) = true := bne_iff_ne.mpr c13
                      obtain rfl := Option.some.inj H
                      have p258 : 0 ≤ (x9_2 : Int) := of_decide_eq_true (by first | (with_reducible assumption) | assumption)
                      have q258 : x9_2 < (l2.length : Int) := of_decide_eq_true (by first | (with_reducible assumption) | assumption)
                      obtain ⟨ad258, e258, hx258_0, hx258_1⟩ := at_T35 HR2.out x9_2 p258 q258
                      cases e258
                      replace p258 := eq_true p258
                      replace q258 := eq_true q258
                      have p259 : 0 ≤ (x9_2 : Int) := of_decide_eq_true (by first | (with_reducible assumption) | assumption)
                      have q259 : x9_2 < (l2.length : Int) := of_decide_eq_true (by first | (with_reducible assumption) | assumption)
                      obtain ⟨ad259, e259, hx259_0, hx259_1⟩ := at_T35 HR2.out x9_2 p259 q259
                      obtain rfl : ad258 = ad259 := (by injection e259)
                      replace p259 := eq_true p259
                      replace q259 := eq_true q259
                      go_wp2
                      go_ret
                      exact ⟨by first | rfl | (simp; done) | (simp [*]; done), by repeat (first | exact Drawn0.refl _ | apply Drawn0.step)⟩
                · rw [if_neg c11] at H
                  exact absurd H (by simp)
              · rw [if_neg c10] at H
                have c10b0 : decide (x9_2 < (l2.length : Int)) = false := decide_eq_false c10
                clear c10
                obtain rfl := Option.some.inj H
                go_wp2
                go_ret
                exact ⟨by first | rfl | (simp; done) | (simp [*]; done), by repeat (first | exact Drawn0.refl _ | apply Drawn0.step)⟩
  · rw [if_neg c5] at H
    have c5b0 : (t255 == 0) = false := beq_eq_false_iff_ne.mpr c5
    have c5b1 : (t255 != 0) = true := bne_iff_ne.mpr c5
    obtain rfl := Option.some.inj H
    go_enter Try.func78, Try.ntmps78
    go_wp2_with (first | ((with_reducible refine gate_callee (f := 59) rfl ?_); refine goesL_ (some 12) rfl rfl Try.func59 (by kernel_rfl) rfl #[.int .i64 a0, .slice A1 l1.length c1] rfl (by (try simp only [List.map_toArray, List.map_cons, List.map_nil]); first | done | rfl | (simp only [List.length_drop, List.length_take]; rfl)) ?_; (with_reducible refine (verditerref06_Validate.calls k a0 _ _ l1 t255 _ ?side1 ?side2 A4.out).mono ?_); (case side1 => repeat (first | exact HR1.out | (with_reducible refine Kd.C_alloc ?_ _) | (with_reducible refine Kd.C_drewN ?_ _) | (with_reducible refine Kd.C_drew ?_))); (case side2 => exact HC1.out); rintro e w' ⟨rfl, ⟨nd, rfl⟩⟩; refine ⟨_, rfl, ?_⟩))
    go_ret
    exact ⟨by first | rfl | (simp; done) | (simp [*]; done), by repeat (first | exact Drawn0.refl _ | apply Drawn0.step)⟩

end Go.Proofs.Ytdbeochifofdoaa.X
end
