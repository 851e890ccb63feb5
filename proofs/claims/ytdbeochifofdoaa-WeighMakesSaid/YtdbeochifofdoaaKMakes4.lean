/- The law WeighMakes: a plan is returned where one can tell, and it tells, for all numbers.
Its conditions: none beyond the statement's own. Part 5 of 5 of the proof. -/
import Derived.Test.YtdbeochifofdoaaRows
import Derived.WalkKit
import Derived.ProofKit
import Derived.OpenShut
import Derived.ShutString
import Derived.ChangeOld
import Derived.Below
import Derived.SizedLaws
import Derived.Test.YtdbeochifofdoaaKMakes3
section
-- Written by a program of this session (wip/hook.py, which runs the kit's print.py with contracts proved by hand). Not trusted: Lean checks it.
namespace Go.Proofs.Ytdbeochifofdoaa.X
open Go.RowKit Go.Proofs.YtdbeochifofdoaaW.PrintWords Go.Proofs.YtdbeochifofdoaaW.PrintLast Go.Proofs.YtdbeochifofdoaaW.PrintMore
attribute [local go_sem] max2_int min2_int max_two min_two max_three min_three max_four min_four   -- for this text's walks alone
set_option linter.unusedVariables false
set_option linter.unusedSimpArgs false

-- NOT PRINTED: function 4 (verditerlaw06_WeighBads)

/-! ### verditerref06_numbered: function 47 -/
def verditerref06_numbered.f (a0 : Int) (a1 : Int) : Option (Int) := (verditerref06_within.f a0 1 13).bind fun t296 => (if t296 = true then ((verditerref06_within.f a1 0 3).bind fun t297 => (if t297 = true then (some 0) else (some 1))) else (some 1))
set_option maxHeartbeats 8000000 in
set_option maxRecDepth 100000 in
theorem verditerref06_numbered.calls (a0 : Int) (a1 : Int) (r : Int) (w : World) (h : verditerref06_numbered.f a0 a1 = some r) :
    Calls Try.prog 47 #[.int .i64 a0, .int .i64 a1] w fun e w' => e = .returned (.int .i64 r) ∧ Drawn0 w w' := by
  have H : ((verditerref06_within.f a0 1 13).bind fun t296 => (if t296 = true then ((verditerref06_within.f a1 0 3).bind fun t297 => (if t297 = true then (some 0) else (some 1))) else (some 1))) = some r := h
  clear h
  replace H := Option.bind_eq_some_iff.mp H
  obtain ⟨t296, A30, H⟩ := H
  replace H : (if t296 = true then ((verditerref06_within.f a1 0 3).bind fun t297 => (if t297 = true then (some 0) else (some 1))) else (some 1)) = some r := H
  have A3 := Aside0.mk A30
  clear A30
  by_cases c4 : t296 = true
  · subst c4
    have H1 : ((verditerref06_within.f a1 0 3).bind fun t297 => (if t297 = true then (some 0) else (some 1))) = some r := by rw [if_pos rfl] at H; exact H
    clear H
    have H := H1
    clear H1
    replace H := Option.bind_eq_some_iff.mp H
    obtain ⟨t297, A50, H⟩ := H
    replace H : (if t297 = true then (some 0) else (some 1)) = some r := H
    have A5 := Aside0.mk A50
    clear A50
    by_cases c6 : t297 = true
    · subst c6
      have H1 : (some 0) = some r := by rw [if_pos rfl] at H; exact H
      clear H
      have H := H1
      clear H1
      obtain rfl := Option.some.inj H
      go_enter Try.func47, Try.ntmps47
      go_wp2_with (first | ((with_reducible refine gate_callee (f := 82) rfl ?_); refine goesL_ (some 6) rfl rfl Try.func82 (by kernel_rfl) rfl #[.int .i64 a0, .int .i64 1, .int .i64 13] rfl (by (try simp only [List.map_toArray, List.map_cons, List.map_nil]); first | done | rfl | (simp only [List.length_drop, List.length_take]; rfl)) ?_; (with_reducible refine (verditerref06_within.calls a0 1 13 true _ A3.out).mono ?_); rintro e w' ⟨rfl, ⟨nd, rfl⟩⟩; refine ⟨_, rfl, ?_⟩) | (go_at_call 82; (with_reducible refine (verditerref06_within.calls a1 0 3 true _ A5.out).mono ?_); rintro e w' ⟨rfl, ⟨nd, rfl⟩⟩))
      go_ret
      exact ⟨by first | rfl | (simp; done) | (simp [*]; done), by repeat (first | exact Drawn0.refl _ | apply Drawn0.step)⟩
    · replace c6 := Bool.eq_false_iff.mpr c6
      subst c6
      have H1 : (some 1) = some r := by rw [if_neg (show ¬ (false = true) by decide)] at H; exact H
      clear H
      have H := H1
      clear H1
      obtain rfl := Option.some.inj H
      go_enter Try.func47, Try.ntmps47
      go_wp2_with (first | ((with_reducible refine gate_callee (f := 82) rfl ?_); refine goesL_ (some 6) rfl rfl Try.func82 (by kernel_rfl) rfl #[.int .i64 a0, .int .i64 1, .int .i64 13] rfl (by (try simp only [List.map_toArray, List.map_cons, List.map_nil]); first | done | rfl | (simp only [List.length_drop, List.length_take]; rfl)) ?_; (with_reducible refine (verditerref06_within.calls a0 1 13 true _ A3.out).mono ?_); rintro e w' ⟨rfl, ⟨nd, rfl⟩⟩; refine ⟨_, rfl, ?_⟩) | (go_at_call 82; (with_reducible refine (verditerref06_within.calls a1 0 3 false _ A5.out).mono ?_); rintro e w' ⟨rfl, ⟨nd, rfl⟩⟩))
      go_ret
      exact ⟨by first | rfl | (simp; done) | (simp [*]; done), by repeat (first | exact Drawn0.refl _ | apply Drawn0.step)⟩
  · replace c4 := Bool.eq_false_iff.mpr c4
    subst c4
    have H1 : (some 1) = some r := by rw [if_neg (show ¬ (false = true) by decide)] at H; exact H
    clear H
    have H := H1
    clear H1
    obtain rfl := Option.some.inj H
    go_enter Try.func47, Try.ntmps47
    go_wp2_with (first | ((with_reducible refine gate_callee (f := 82) rfl ?_); refine goesL_ (some 6) rfl rfl Try.func82 (by kernel_rfl) rfl #[.int .i64 a0, .int .i64 1, .int .i64 13] rfl (by (try simp only [List.map_toArray, List.map_cons, List.map_nil]); first | done | rfl | (simp only [List.length_drop, List.length_take]; rfl)) ?_; (with_reducible refine (verditerref06_within.calls a0 1 13 false _ A3.out).mono ?_); rintro e w' ⟨rfl, ⟨nd, rfl⟩⟩; refine ⟨_, rfl, ?_⟩))
    go_ret
    exact ⟨by first | rfl | (simp; done) | (simp [*]; done), by repeat (first | exact Drawn0.refl _ | apply Drawn0.step)⟩

-- GIVEN: function 83 (verditerref06_some): YtdbeochifofdoaaG83

-- GIVEN: function 84 (verditerref06_marks): YtdbeochifofdoaaG84

/-! ### verditerref06_can: function 48 -/
def verditerref06_can.f (a0 : Int) (a1 : Int) : Option (Bool) := (verditerref06_marks.f a1).bind fun t298 => ((verditerref06_some.f t298 a0 0 0 0).bind fun t301 => (some t301))
set_option maxHeartbeats 8000000 in
set_option maxRecDepth 100000 in
theorem verditerref06_can.calls (a0 : Int) (a1 : Int) (r : Bool) (w : World) (h : verditerref06_can.f a0 a1 = some r) :
    Calls Try.prog 48 #[.int .i64 a0, .int .i64 a1] w fun e w' => e = .returned (.bool r) ∧ Below w.heap.size w w' := by
  have hu69 := Try.underlying69
  have HB := Aside0.mk (Below.refl w.heap.size w)
  have H : ((verditerref06_marks.f a1).bind fun t298 => ((verditerref06_some.f t298 a0 0 0 0).bind fun t301 => (some t301))) = some r := h
  clear h
  replace H := Option.bind_eq_some_iff.mp H
  obtain ⟨t298, A30, H⟩ := H
  replace H : ((verditerref06_some.f t298 a0 0 0 0).bind fun t301 => (some t301)) = some r := H
  have A3 := Aside0.mk A30
  clear A30
  replace H := Option.bind_eq_some_iff.mp H
  obtain ⟨t301, A40, H⟩ := H
  replace H : (some t301) = some r := H
  have A4 := Aside0.mk A40
  clear A40
  obtain rfl := Option.some.inj H
  go_enter Try.func48, Try.ntmps48
  go_wp2_with (first | ((with_reducible refine gate_callee (f := 84) rfl ?_); refine goesL_ (some 6) rfl rfl Try.func84 (by kernel_rfl) rfl #[.int .i64 a1] rfl (by (try simp only [List.map_toArray, List.map_cons, List.map_nil]); first | done | rfl | (simp only [List.length_drop, List.length_take]; rfl)) ?_; (with_reducible refine (verditerref06_marks.calls a1 t298 _ A3.out).mono ?_); rintro e w5 ⟨v299, rfl, ho0, hb⟩; refine ⟨_, rfl, ?_⟩; have n0_ := Aside0.mk (Kd.R_lower ho0 (below_size (by repeat (first | (with_reducible first | exact HB.out | apply below_alloc | apply pw_below_drewN | apply below_drew1) | exact HB.out)))); have n1_ := Aside0.mk (below_step (by repeat (first | (with_reducible first | exact HB.out | apply below_alloc | apply pw_below_drewN | apply below_drew1) | exact HB.out)) hb); clear HB; have HO300 := n0_; have HB := n1_; clear n0_ n1_; (try clear hb); (try clear hb2); (try clear hk); (try clear hi); (try clear ho0); obtain ⟨Ao6, co6, eo6⟩ := Kd.R_slice HO300.out; subst eo6) | ((with_reducible refine gate_callee (f := 83) rfl ?_); refine goesL_ (some 9) rfl rfl Try.func83 (by kernel_rfl) rfl #[.slice Ao6 t298.length co6, .int .i64 a0, .agg #[.int .i64 0, .int .i64 0, .int .i64 0]] rfl (by (try simp only [List.map_toArray, List.map_cons, List.map_nil]); first | done | rfl | (simp only [List.length_drop, List.length_take]; rfl)) ?_; (with_reducible refine (verditerref06_some.calls _ _ t298 a0 0 0 0 t301 _ ?side1 ?side2 A4.out).mono ?_); (case side1 => repeat (first | exact (Kd.R_reads' HO300.out).2.2 | (with_reducible refine Kd.C_alloc ?_ _) | (with_reducible refine Kd.C_drewN ?_ _) | (with_reducible refine Kd.C_drew ?_))); (case side2 => exact (Kd.R_reads' HO300.out).2.1); rintro e w7 ⟨rfl, hb⟩; refine ⟨_, rfl, ?_⟩; have n0_ := Aside0.mk (Kd.R_below (by (with_reducible repeat (first | apply Kd.R_alloc | apply Kd.R_drewN | apply Kd.R_drew)); exact HO300.out) hb); have n1_ := Aside0.mk (below_step (by repeat (first | (with_reducible first | exact HB.out | apply below_alloc | apply pw_below_drewN | apply below_drew1) | exact HB.out)) hb); clear HO300; clear HB; have HO300 := n0_; have HB := n1_; clear n0_ n1_; (try clear hb); (try clear hb2); (try clear hk); (try clear hi)))
  go_ret
  exact ⟨by first | rfl | (simp [errW_none, errW_some] <;> rfl) | (simp [*, errW_none, errW_some] <;> rfl), by repeat (first | (with_reducible first | exact HB.out | apply below_alloc | apply pw_below_drewN | apply below_drew1) | exact HB.out)⟩

end Go.Proofs.Ytdbeochifofdoaa.X
end

section
-- Written by a program of this session (wip/hook.py, which runs the kit's print.py with contracts proved by hand). Not trusted: Lean checks it.
namespace Go.Proofs.Ytdbeochifofdoaa.X
open Go.RowKit Go.Proofs.YtdbeochifofdoaaW.PrintWords Go.Proofs.YtdbeochifofdoaaW.PrintLast Go.Proofs.YtdbeochifofdoaaW.PrintMore
attribute [local go_sem] max2_int min2_int max_two min_two max_three min_three max_four min_four   -- for this text's walks alone
set_option linter.unusedVariables false
set_option linter.unusedSimpArgs false

/-! ### verditerref06_CanTell: function 22 -/
def verditerref06_CanTell.f (a0 : Int) (a1 : Int) : Option (Bool × Int) := (verditerref06_numbered.f a0 a1).bind fun t304 => (if t304 = 0 then ((verditerref06_can.f a0 a1).bind fun t305 => (some (t305, 0))) else (some (false, t304)))
set_option maxHeartbeats 8000000 in
set_option maxRecDepth 100000 in
theorem verditerref06_CanTell.calls (a0 : Int) (a1 : Int) (r1 : Bool) (r2 : Int) (w : World) (h : verditerref06_CanTell.f a0 a1 = some (r1, r2)) :
    Calls Try.prog 22 #[.int .i64 a0, .int .i64 a1] w fun e w' => e = .returned (.tuple #[.bool r1, .int .i64 r2]) ∧ Below w.heap.size w w' := by
  have HB := Aside0.mk (Below.refl w.heap.size w)
  have H : ((verditerref06_numbered.f a0 a1).bind fun t304 => (if t304 = 0 then ((verditerref06_can.f a0 a1).bind fun t305 => (some (t305, 0))) else (some (false, t304)))) = some (r1, r2) := h
  clear h
  replace H := Option.bind_eq_some_iff.mp H
  obtain ⟨t304, A30, H⟩ := H
  replace H : (if t304 = 0 then ((verditerref06_can.f a0 a1).bind fun t305 => (some (t305, 0))) else (some (false, t304))) = some (r1, r2) := H
  have A3 := Aside0.mk A30
  clear A30
  by_cases c4 : t304 = 0
  · rw [if_pos c4] at H
    have c4b0 : (t304 == 0) = true := beq_iff_eq.mpr c4
    have c4b1 : (t304 != 0) = false := bne_eq_false_iff_eq.mpr c4
    clear c4
    replace H := Option.bind_eq_some_iff.mp H
    obtain ⟨t305, A50, H⟩ := H
    replace H : (some (t305, 0)) = some (r1, r2) := H
    have A5 := Aside0.mk A50
    clear A50
    simp only [Option.some.injEq, Prod.mk.injEq] at H
    obtain ⟨rfl, rfl⟩ := H
    go_enter Try.func22, Try.ntmps22
    go_wp2_with (first | ((with_reducible refine gate_callee (f := 47) rfl ?_); refine goesL_ (some 9) rfl rfl Try.func47 (by kernel_rfl) rfl #[.int .i64 a0, .int .i64 a1] rfl (by (try simp only [List.map_toArray, List.map_cons, List.map_nil]); first | done | rfl | (simp only [List.length_drop, List.length_take]; rfl)) ?_; (with_reducible refine (verditerref06_numbered.calls a0 a1 t304 _ A3.out).mono ?_); rintro e w' ⟨rfl, ⟨nd, rfl⟩⟩; refine ⟨_, rfl, ?_⟩) | ((with_reducible refine gate_callee (f := 48) rfl ?_); refine goesL_ (some 15) rfl rfl Try.func48 (by kernel_rfl) rfl #[.int .i64 a0, .int .i64 a1] rfl (by (try simp only [List.map_toArray, List.map_cons, List.map_nil]); first | done | rfl | (simp only [List.length_drop, List.length_take]; rfl)) ?_; (with_reducible refine (verditerref06_can.calls a0 a1 t305 _ A5.out).mono ?_); rintro e w6 ⟨rfl, hb⟩; refine ⟨_, rfl, ?_⟩; have n0_ := Aside0.mk (below_step (by repeat (first | (with_reducible first | exact HB.out | apply below_alloc | apply pw_below_drewN | apply below_drew1) | exact HB.out)) hb); clear HB; have HB := n0_; clear n0_; (try clear hb); (try clear hb2); (try clear hk); (try clear hi)))
    go_ret2
    exact ⟨by first | rfl | (simp [errW_none, errW_some] <;> rfl) | (simp [*, errW_none, errW_some] <;> rfl), by repeat (first | (with_reducible first | exact HB.out | apply below_alloc | apply pw_below_drewN | apply below_drew1) | exact HB.out)⟩
  · rw [if_neg c4] at H
    have c4b0 : (t304 == 0) = false := beq_eq_false_iff_ne.mpr c4
    have c4b1 : (t304 != 0) = true := bne_iff_ne.mpr c4
    simp only [Option.some.injEq, Prod.mk.injEq] at H
    obtain ⟨rfl, rfl⟩ := H
    go_enter Try.func22, Try.ntmps22
    go_wp2_with (first | ((with_reducible refine gate_callee (f := 47) rfl ?_); refine goesL_ (some 9) rfl rfl Try.func47 (by kernel_rfl) rfl #[.int .i64 a0, .int .i64 a1] rfl (by (try simp only [List.map_toArray, List.map_cons, List.map_nil]); first | done | rfl | (simp only [List.length_drop, List.length_take]; rfl)) ?_; (with_reducible refine (verditerref06_numbered.calls a0 a1 t304 _ A3.out).mono ?_); rintro e w' ⟨rfl, ⟨nd, rfl⟩⟩; refine ⟨_, rfl, ?_⟩))
    go_ret2
    exact ⟨by first | rfl | (simp [errW_none, errW_some] <;> rfl) | (simp [*, errW_none, errW_some] <;> rfl), by repeat (first | (with_reducible first | exact HB.out | apply below_alloc | apply pw_below_drewN | apply below_drew1) | exact HB.out)⟩

/-! ### weigh_CanTell: function 24 -/
def weigh_CanTell.f (a0 : Int) (a1 : Int) : Option (Bool × Int) := (weigh_counted.f a0 a1).bind fun t306 => (if t306 = 0 then ((weigh_search.f a0 a1).bind fun bt307 => (some (bt307.2, 0))) else (some (false, t306)))
set_option maxHeartbeats 8000000 in
set_option maxRecDepth 100000 in
theorem weigh_CanTell.calls (a0 : Int) (a1 : Int) (r1 : Bool) (r2 : Int) (w : World) (h : weigh_CanTell.f a0 a1 = some (r1, r2)) :
    Calls Try.prog 24 #[.int .i64 a0, .int .i64 a1] w fun e w' => e = .returned (.tuple #[.bool r1, .int .i64 r2]) ∧ Below w.heap.size w w' := by
  have HB := Aside0.mk (Below.refl w.heap.size w)
  have H : ((weigh_counted.f a0 a1).bind fun t306 => (if t306 = 0 then ((weigh_search.f a0 a1).bind fun bt307 => (some (bt307.2, 0))) else (some (false, t306)))) = some (r1, r2) := h
  clear h
  replace H := Option.bind_eq_some_iff.mp H
  obtain ⟨t306, A30, H⟩ := H
  replace H : (if t306 = 0 then ((weigh_search.f a0 a1).bind fun bt307 => (some (bt307.2, 0))) else (some (false, t306))) = some (r1, r2) := H
  have A3 := Aside0.mk A30
  clear A30
  by_cases c4 : t306 = 0
  · rw [if_pos c4] at H
    have c4b0 : (t306 == 0) = true := beq_iff_eq.mpr c4
    have c4b1 : (t306 != 0) = false := bne_eq_false_iff_eq.mpr c4
    clear c4
    replace H := Option.bind_eq_some_iff.mp H
    obtain ⟨⟨t307, t308⟩, A50, H⟩ := H
    replace H : (some (t308, 0)) = some (r1, r2) := H
    have A5 := Aside0.mk A50
    clear A50
    simp only [Option.some.injEq, Prod.mk.injEq] at H
    obtain ⟨rfl, rfl⟩ := H
    go_enter Try.func24, Try.ntmps24
    go_wp2_with (first | ((with_reducible refine gate_callee (f := 49) rfl ?_); refine goesL_ (some 11) rfl rfl Try.func49 (by kernel_rfl) rfl #[.int .i64 a0, .int .i64 a1] rfl (by (try simp only [List.map_toArray, List.map_cons, List.map_nil]); first | done | rfl | (simp only [List.length_drop, List.length_take]; rfl)) ?_; (with_reducible refine (weigh_counted.calls a0 a1 t306 _ A3.out).mono ?_); rintro e w' ⟨rfl, ⟨nd, rfl⟩⟩; refine ⟨_, rfl, ?_⟩) | ((with_reducible refine gate_callee (f := 50) rfl ?_); refine goesL_ (some 18) rfl rfl Try.func50 (by kernel_rfl) rfl #[.int .i64 a0, .int .i64 a1] rfl (by (try simp only [List.map_toArray, List.map_cons, List.map_nil]); first | done | rfl | (simp only [List.length_drop, List.length_take]; rfl)) ?_; (with_reducible refine (weigh_search.calls a0 a1 t307 t308 _ A5.out).mono ?_); rintro e w6 ⟨v309, rfl, ho0, hb⟩; refine ⟨_, rfl, ?_⟩; have n0_ := Aside0.mk (Kd.R_lower ho0 (below_size (by repeat (first | (with_reducible first | exact HB.out | apply below_alloc | apply pw_below_drewN | apply below_drew1) | exact HB.out)))); have n1_ := Aside0.mk (below_step (by repeat (first | (with_reducible first | exact HB.out | apply below_alloc | apply pw_below_drewN | apply below_drew1) | exact HB.out)) hb); clear HB; have HO310 := n0_; have HB := n1_; clear n0_ n1_; (try clear hb); (try clear hb2); (try clear hk); (try clear hi); (try clear ho0)))
    go_ret2
    exact ⟨by first | rfl | (simp [errW_none, errW_some] <;> rfl) | (simp [*, errW_none, errW_some] <;> rfl), by repeat (first | (with_reducible first | exact HB.out | apply below_alloc | apply pw_below_drewN | apply below_drew1) | exact HB.out)⟩
  · rw [if_neg c4] at H
    have c4b0 : (t306 == 0) = false := beq_eq_false_iff_ne.mpr c4
    have c4b1 : (t306 != 0) = true := bne_iff_ne.mpr c4
    simp only [Option.some.injEq, Prod.mk.injEq] at H
    obtain ⟨rfl, rfl⟩ := H
    go_enter Try.func24, Try.ntmps24
    go_wp2_with (first | ((with_reducible refine gate_callee (f := 49) rfl ?_); refine goesL_ (some 11) rfl rfl Try.func49 (by kernel_rfl) rfl #[.int .i64 a0, .int .i64 a1] rfl (by (try simp only [List.map_toArray, List.map_cons, List.map_nil]); first | done | rfl | (simp only [List.length_drop, List.length_take]; rfl)) ?_; (with_reducible refine (weigh_counted.calls a0 a1 t306 _ A3.out).mono ?_); rintro e w' ⟨rfl, ⟨nd, rfl⟩⟩; refine ⟨_, rfl, ?_⟩))
    go_ret2
    exact ⟨by first | rfl | (simp [errW_none, errW_some] <;> rfl) | (simp [*, errW_none, errW_some] <;> rfl), by repeat (first | (with_reducible first | exact HB.out | apply below_alloc | apply pw_below_drewN | apply below_drew1) | exact HB.out)⟩

end Go.Proofs.Ytdbeochifofdoaa.X
end

section
/-! weigh.Make. -/
namespace Go.Proofs.Ytdbeochifofdoaa.X
open Go.RowKit Go.Proofs.YtdbeochifofdoaaW.PrintWords Go.Proofs.YtdbeochifofdoaaW.PrintLast Go.Proofs.YtdbeochifofdoaaW.PrintMore
set_option linter.unusedVariables false
set_option linter.unusedSimpArgs false

/-- The numbers, from n on, of the marks that have s at k. -/
def sideOf (k : Nat) (s : Int) : Nat → List S70 → List Int
  | _, [] => []
  | n, m :: q => if getk m k = s then (n : Int) :: sideOf k s (n + 1) q else sideOf k s (n + 1) q
theorem sideOf_len (k : Nat) (s : Int) : ∀ (l : List S70) (n : Nat), (sideOf k s n l).length ≤ l.length
  | [], _ => Nat.le_refl _
  | m :: q, n => by
    have := sideOf_len k s q (n + 1)
    unfold sideOf
    split
    · simp only [List.length_cons]; omega
    · simp only [List.length_cons]; omega
def pairOf (l : List S70) (k : Nat) : S53 := ⟨sideOf k 1 0 l, sideOf k (-1) 0 l⟩
def weigh_Make.f (a0 a1 : Int) : Option (List S53 × Bool × Int) :=
  if (1 ≤ a0 ∧ a0 ≤ 13) ∧ 0 ≤ a1 ∧ a1 ≤ 3 then
    (if (searchR a0 a1.toNat).2 = true then some ((List.range a1.toNat).map (pairOf (searchR a0 a1.toNat).1), true, 0) else some ([], false, 0))
  else some ([], false, 1)
theorem chosenL_le : ∀ (l : List S70) (c : List Int), (chosenL l c).length ≤ l.length
  | [], _ => by simp [chosenL]
  | m :: ms, [] => by simp [chosenL]
  | m :: ms, x :: xs => by
    have := chosenL_le ms xs
    unfold chosenL
    split
    · simp only [List.length_cons]; omega
    · split <;> simp only [List.length_cons] <;> omega
theorem searchR_len (a0 : Int) (w : Nat) (h : w ≤ 3) : (searchR a0 w).1.length ≤ 13 := by
  unfold searchR
  split
  · exact Nat.le_trans (chosenL_le _ _) (classC_len w h)
  · simp

theorem counted_yes {a b : Int} (h : (1 ≤ a ∧ a ≤ 13) ∧ 0 ≤ b ∧ b ≤ 3) : weigh_counted.f a b = some 0 := by
  unfold weigh_counted.f
  simp [within_f, h]
theorem counted_no {a b : Int} (h : ¬ ((1 ≤ a ∧ a ≤ 13) ∧ 0 ≤ b ∧ b ≤ 3)) : weigh_counted.f a b = some 1 := by
  unfold weigh_counted.f
  simp only [within_f, Option.bind_some, Bool.and_eq_true, decide_eq_true_eq]
  by_cases h1 : 1 ≤ a ∧ a ≤ 13
  · rw [if_pos h1, if_neg (fun h2 => h ⟨h1, h2⟩)]
  · rw [if_neg h1]

/-- The two sides that are being written, in their variable g. -/
def MkS (wo : World) (g : Nat) (W : World) (vL vR : Value) (xs ys : List Int) : Prop :=
  W.heap[g]? = some (.cells #[vL, vR] 53 (0, 0)) ∧ Kd.R (Kd.int .i64) 3 W wo.heap.size (fun q => q ≠ g ∧ some q ≠ vR.ownBlock) vL xs ∧
    Kd.R (Kd.int .i64) 3 W wo.heap.size (fun q => q ≠ g ∧ some q ≠ vL.ownBlock) vR ys ∧ Below wo.heap.size wo W ∧ g < W.heap.size ∧ wo.heap.size ≤ g
theorem MkS.left {wo : World} {g : Nat} {W w3 : World} {vL vR v1 : Value} {xs ys zs : List Int} (h : MkS wo g W vL vR xs ys)
    (hR : Kd.R (Kd.int .i64) 3 w3 wo.heap.size (fun q => q ≠ g ∧ some q ≠ vR.ownBlock) v1 zs) (hB : Below wo.heap.size wo w3) (hG : W.grownBy w3 vL.ownBlock)
    (hat : v1.ownBlock = vL.ownBlock ∨ ∃ b, v1.ownBlock = some b ∧ W.heap.size ≤ b) : MkS wo g (w3.setCell ⟨g, 0, none⟩ v1) v1 vR zs ys := by
  obtain ⟨h1, h2, h3, h4, h5, h6⟩ := h
  have hX := blk_grown h1 hG (Kd.R_away h2 (fun q hq => hq.1))
  have hX1 := blk_set hX 0 v1
  refine ⟨hX1, Kd.R_far hR (fun q hq => hq.1) v1, ?_, hB.setCell h6 v1, by simpa using blk_lt hX, h6⟩
  refine Kd.R_far ?_ (fun q hq => hq.1) v1
  refine Kd.R_mono (Kd.R_grown (Kd.R_bound h3) hG (fun k hk => hk.1.2)) (fun k hk => ⟨hk.1.1, fun he => ?_⟩)
  rcases hat with e | ⟨b, e, hb⟩
  · exact hk.1.2 (he.trans e)
  · rw [e] at he
    have := hk.2.2.1
    injection he with he
    omega
theorem MkS.right {wo : World} {g : Nat} {W w3 : World} {vL vR v1 : Value} {xs ys zs : List Int} (h : MkS wo g W vL vR xs ys)
    (hR : Kd.R (Kd.int .i64) 3 w3 wo.heap.size (fun q => q ≠ g ∧ some q ≠ vL.ownBlock) v1 zs) (hB : Below wo.heap.size wo w3) (hG : W.grownBy w3 vR.ownBlock)
    (hat : v1.ownBlock = vR.ownBlock ∨ ∃ b, v1.ownBlock = some b ∧ W.heap.size ≤ b) : MkS wo g (w3.setCell ⟨g, 1, none⟩ v1) vL v1 xs zs := by
  obtain ⟨h1, h2, h3, h4, h5, h6⟩ := h
  have hX := blk_grown h1 hG (Kd.R_away h3 (fun q hq => hq.1))
  have hX1 := blk_set hX 1 v1
  refine ⟨hX1, ?_, Kd.R_far hR (fun q hq => hq.1) v1, hB.setCell h6 v1, by simpa using blk_lt hX, h6⟩
  refine Kd.R_far ?_ (fun q hq => hq.1) v1
  refine Kd.R_mono (Kd.R_grown (Kd.R_bound h2) hG (fun k hk => hk.1.2)) (fun k hk => ⟨hk.1.1, fun he => ?_⟩)
  rcases hat with e | ⟨b, e, hb⟩
  · exact hk.1.2 (he.trans e)
  · rw [e] at he
    have := hk.2.2.1
    injection he with he
    omega
theorem MkS.alloc {wo : World} {g : Nat} {W : World} {vL vR : Value} {xs ys : List Int} (h : MkS wo g W vL vR xs ys) (o : Obj) : MkS wo g (W.alloc o) vL vR xs ys := by
  obtain ⟨h1, h2, h3, h4, h5, h6⟩ := h
  exact ⟨blk_alloc h1 _, Kd.R_alloc h2 _, Kd.R_alloc h3 _, h4.alloc h4.size _, by simp; omega, h6⟩

set_option maxHeartbeats 8000000 in
set_option maxRecDepth 100000 in
theorem weigh_Make.calls (a0 a1 : Int) (r1 : List S53) (r2 : Bool) (r3 : Int) (w : World) (h : weigh_Make.f a0 a1 = some (r1, r2, r3)) :
    Calls Try.prog 31 #[.int .i64 a0, .int .i64 a1] w fun e w' => ∃ v0_ : Value, e = .returned (.tuple #[v0_, .bool r2, .int .i64 r3]) ∧ Kd.N k53 53 w' w.heap.size (fun k_ => w.heap.size ≤ k_) v0_ r1 ∧ Below w.heap.size w w' := by
  unfold weigh_Make.f at h
  by_cases hp : (1 ≤ a0 ∧ a0 ≤ 13) ∧ 0 ≤ a1 ∧ a1 ≤ 3
  rotate_left
  · rw [if_neg hp] at h
    simp only [Option.some.injEq, Prod.mk.injEq] at h
    obtain ⟨rfl, rfl, rfl⟩ := h
    have HF := Aside0.mk (counted_no hp)
    clear hp
    go_enter Try.func31, Try.ntmps31
    go_wp2_with (first | (go_at_call 49; (with_reducible refine (weigh_counted.calls a0 a1 1 _ HF.out).mono ?_); rintro e w' ⟨rfl, ⟨nd, rfl⟩⟩))
    go_ret3
    exact ⟨_, rfl, Kd.N_nil _ _ _ _ _, pw_below_drewN (Below.refl _ _) _⟩
  rw [if_pos hp] at h
  have HC := Aside0.mk (counted_yes hp)
  have hlen := searchR_len a0 a1.toNat (by omega)
  have HS : Aside0 (weigh_search.f a0 a1 = some ((searchR a0 a1.toNat).1, (searchR a0 a1.toNat).2)) := ⟨by unfold weigh_search.f; rw [if_pos hp]⟩
  obtain ⟨n, rfl⟩ := Int.eq_ofNat_of_zero_le hp.2.1
  have hn3 : n ≤ 3 := by omega
  clear hp
  rw [show ((n : Nat) : Int).toNat = n from rfl] at h hlen HS
  generalize searchR a0 n = SR at h hlen HS
  obtain ⟨L, b⟩ := SR
  dsimp only at h hlen HS
  cases b with
  | false =>
    rw [if_neg (by simp)] at h
    simp only [Option.some.injEq, Prod.mk.injEq] at h
    obtain ⟨rfl, rfl, rfl⟩ := h
    go_enter Try.func31, Try.ntmps31
    go_upto_region 4 with (first | (go_at_call 49; (with_reducible refine (weigh_counted.calls a0 n 0 _ HC.out).mono ?_); rintro e w' ⟨rfl, ⟨nd, rfl⟩⟩))
    go_wp2_with fail
    refine (weigh_search.calls a0 n L false _ HS.out).mono ?_
    rintro e w1 ⟨v, rfl, hO, hb⟩
    have HB1 := Aside0.mk ((pw_below_drewN (Below.refl _ w) _).trans hb)
    clear hO hb
    go_wp2
    go_ret3
    exact ⟨_, rfl, Kd.N_nil _ _ _ _ _, HB1.out⟩
  | true =>
    rw [if_pos rfl] at h
    simp only [Option.some.injEq, Prod.mk.injEq] at h
    obtain ⟨rfl, rfl, rfl⟩ := h
    go_enter Try.func31, Try.ntmps31
    go_upto_region 4 with (first | (go_at_call 49; (with_reducible refine (weigh_counted.calls a0 n 0 _ HC.out).mono ?_); rintro e w' ⟨rfl, ⟨nd, rfl⟩⟩))
    go_wp2_with fail
    refine (weigh_search.calls a0 n L true _ HS.out).mono ?_
    rintro e w2 ⟨v, rfl, hO, hb⟩
    obtain ⟨A, c, rfl⟩ := Kd.R_slice hO
    obtain ⟨_, hLc, hC⟩ := Kd.R_reads' hO
    have HB2 := Aside0.mk ((pw_below_drewN (Below.refl _ w) _).trans hb)
    have HL := Aside0.mk hC
    clear hO hC hb
    go_wp2
    go_loopg [10, 30] n (fun gg v10 s wr => ∃ (k : Nat) (out : List S53), k ≤ n ∧ n - k ≤ gg ∧ s = .int .i64 k ∧ Aside0 (Below w2.heap.size w2 wr) ∧ Aside0 (Kd.N k53 53 wr w2.heap.size (fun k_ => w2.heap.size ≤ k_) v10 out) ∧ Aside0 (out = (List.range k).map (pairOf L)))
    case atStart => exact ⟨0, [], Nat.zero_le _, by omega, rfl, ⟨Below.refl _ _⟩, ⟨Kd.N_nil _ _ _ _ _⟩, ⟨rfl⟩⟩
    case round =>
      obtain ⟨k, out, hk, hg, rfl, BR, HO, AX⟩ := hrel
      by_cases hkn : k < n
      · have hknz : (k : Int) < (n : Int) := by omega
        have hk3 : k < 3 := by omega
        obtain ⟨wo, rfl⟩ : ∃ q : World, q = wr := ⟨_, rfl⟩
        obtain ⟨go, rfl⟩ : ∃ q : Nat, q = gk := ⟨_, rfl⟩
        go_wp2
        have HMS : Aside0 (MkS wo wo.heap.size (wo.alloc (.cells #[.slice none 0 0, .slice none 0 0] 53)) (.slice none 0 0) (.slice none 0 0) [] []) :=
          ⟨⟨blk_new _ _, Kd.R_nil _ _ _ _ _, Kd.R_nil _ _ _ _ _, (Below.refl _ _).alloc (Nat.le_refl _) _, by simp, Nat.le_refl _⟩⟩
        obtain ⟨g, hg'⟩ : ∃ g, g = wo.heap.size := ⟨_, rfl⟩
        have HGW := Aside0.mk hg'
        rw [← hg'] at HMS ⊢
        clear hg'
        go_loopg [35] L.length (fun gg s wi => ∃ (i : Nat) (vL vR : Value) (xs ys : List Int), i ≤ L.length ∧ L.length - i ≤ gg ∧ s = .int .i64 i ∧ Aside0 (MkS wo g wi vL vR xs ys) ∧ Aside0 (xs ++ sideOf k 1 i (L.drop i) = sideOf k 1 0 L) ∧ Aside0 (ys ++ sideOf k (-1) i (L.drop i) = sideOf k (-1) 0 L))
        case atStart => exact ⟨0, _, _, [], [], Nat.zero_le _, by omega, rfl, HMS, ⟨rfl⟩, ⟨rfl⟩⟩
        case round =>
          obtain ⟨i, vL, vR, xs, ys, hi, hgi, rfl, HM, EL, ER⟩ := hrel
          by_cases hil : i < L.length
          · have hilz : (i : Int) < (L.length : Int) := by omega
            obtain ⟨ad, e1, hx0, hx1, hx2⟩ := at_T70 HL.out i (by omega) hilz
            cases e1
            have BI := BR.out.trans (HM.out.2.2.2.1.mono BR.out.size)
            replace hx0 := (BI.cell (World.block_lt_of_cell? w2 _ hx0)).trans hx0
            replace hx1 := (BI.cell (World.block_lt_of_cell? w2 _ hx1)).trans hx1
            replace hx2 := (BI.cell (World.block_lt_of_cell? w2 _ hx2)).trans hx2
            simp only [Int.toNat_natCast] at hx0 hx1 hx2
            rw [show rd_T70 L (i : Int) = L.getD i z70 from rfl] at hx0 hx1 hx2
            have SL : Aside0 (sideOf k 1 i (L.drop i) = if getk (L.getD i z70) k = 1 then (i : Int) :: sideOf k 1 (i + 1) (L.drop (i + 1)) else sideOf k 1 (i + 1) (L.drop (i + 1))) := ⟨by rw [dropD z70 L i hil]; rfl⟩
            have SR : Aside0 (sideOf k (-1) i (L.drop i) = if getk (L.getD i z70) k = -1 then (i : Int) :: sideOf k (-1) (i + 1) (L.drop (i + 1)) else sideOf k (-1) (i + 1) (L.drop (i + 1))) := ⟨by rw [dropD z70 L i hil]; rfl⟩
            have HLX : Aside0 (0 = 0 ∧ xs.length ≤ 13 ∧ ys.length ≤ 13) := by
              refine ⟨rfl, ?_, ?_⟩
              · have h := congrArg List.length EL.out
                rw [List.length_append] at h
                have := sideOf_len k 1 L 0
                omega
              · have h := congrArg List.length ER.out
                rw [List.length_append] at h
                have := sideOf_len k (-1) L 0
                omega
            clear BI
            generalize L.getD i z70 = m at *
            go_upto_region 15 with (fail)
            have hq := (blk_cell (blk_new wr (.cells (cells3 m) 70)) k).trans (cells3_get m k hk3)
            have HM1 := Aside0.mk (HM.out.alloc (.cells (cells3 m) 70))
            rw [show (Obj.cells #[Value.int .i64 m.f0, Value.int .i64 m.f1, Value.int .i64 m.f2] 70) = .cells (cells3 m) 70 from rfl]
            generalize wr.alloc (.cells (cells3 m) 70) = W1 at *
            clear HM hx0 hx1 hx2
            obtain ⟨x, hx⟩ : ∃ x, x = getk m k := ⟨_, rfl⟩
            rw [← hx] at hq SL SR
            clear hx
            by_cases hx : x = 1
            · skip
              have EL2 : Aside0 ((xs ++ [(i : Int)]) ++ sideOf k 1 (i + 1) (L.drop (i + 1)) = sideOf k 1 0 L) := ⟨by rw [← EL.out, SL.out, if_pos hx]; simp⟩
              have ER2 : Aside0 (ys ++ sideOf k (-1) (i + 1) (L.drop (i + 1)) = sideOf k (-1) 0 L) := ⟨by rw [← ER.out, SR.out, if_neg (by rw [hx]; decide)]⟩
              clear EL ER SL SR
              have q0 : W1.cell? ⟨g, 0, none⟩ = some vL := (blk_cell HM1.out.1 0)
              have hlx := HLX.out.2.1
              subst hx
              go_wp2_with (first | (at_builtin; refine Kd.R_append (Kd.int .i64) (w0 := wo) wo.heap.size rfl (.tmp 46) (.tmp 48) 43 3 (.int .i64 0) 8 rfl Try.underlying43 info3 rfl (by decide) (by omega) vL xs (i : Int) [.int .i64 (i : Int)] (fun q => q ≠ g ∧ some q ≠ vR.ownBlock) (fun _ => False) rfl rfl ?aP (fun _ h => h.elim) ?aF HM1.out.2.1 HM1.out.2.2.2.1 HM1.out.2.2.2.1.size ?aL ?_))
              case aP => exact rfl
              case aF =>
                intro q hq
                have h5 := HM1.out.2.2.2.2.1
                refine ⟨by omega, fun he => ?_⟩
                have := (Kd.R_bound HM1.out.2.2.1).1 q he.symm
                omega
              case aL => omega
              intro v1 w3 hR3 hB3 hG3 hat3
              obtain ⟨zs, hzs⟩ : ∃ z, z = xs ++ [(i : Int)] := ⟨_, rfl⟩
              rw [← hzs] at hR3 EL2
              clear hzs
              obtain ⟨A1, c1, rfl⟩ := Kd.R_slice hR3
              have hX3 := blk_grown HM1.out.1 hG3 (Kd.R_away HM1.out.2.1 (fun q hq => hq.1))
              have HN := Aside0.mk (MkS.left HM1.out hR3 hB3 hG3 hat3)
              have c3 : w3.cell? ⟨g, 0, none⟩ = some vL := blk_cell hX3 0
              have f3 : w3.frozen? ⟨g, 0, none⟩ = false := blk_frozen hX3 0
              clear hX3 hR3 hB3 hG3 hat3 HM1 q0
              go_wp2
              go_roundg (L.length - (i + 1))
              case measure => omega
              case rel => exact ⟨i + 1, _, vR, _, ys, by omega, by omega, by go_num, HN, EL2, ER2⟩
            by_cases hx : x = -1
            · skip
              have EL2 : Aside0 (xs ++ sideOf k 1 (i + 1) (L.drop (i + 1)) = sideOf k 1 0 L) := ⟨by rw [← EL.out, SL.out, if_neg (by rw [hx]; decide)]⟩
              have ER2 : Aside0 ((ys ++ [(i : Int)]) ++ sideOf k (-1) (i + 1) (L.drop (i + 1)) = sideOf k (-1) 0 L) := ⟨by rw [← ER.out, SR.out, if_pos hx]; simp⟩
              clear EL ER SL SR
              have q0 : W1.cell? ⟨g, 1, none⟩ = some vR := (blk_cell HM1.out.1 1)
              have hlx := HLX.out.2.2
              subst hx
              go_wp2_with (first | (at_builtin; refine Kd.R_append (Kd.int .i64) (w0 := wo) wo.heap.size rfl (.tmp 54) (.tmp 56) 43 3 (.int .i64 0) 8 rfl Try.underlying43 info3 rfl (by decide) (by omega) vR ys (i : Int) [.int .i64 (i : Int)] (fun q => q ≠ g ∧ some q ≠ vL.ownBlock) (fun _ => False) rfl rfl ?aP (fun _ h => h.elim) ?aF HM1.out.2.2.1 HM1.out.2.2.2.1 HM1.out.2.2.2.1.size ?aL ?_))
              case aP => exact rfl
              case aF =>
                intro q hq
                have h5 := HM1.out.2.2.2.2.1
                refine ⟨by omega, fun he => ?_⟩
                have := (Kd.R_bound HM1.out.2.1).1 q he.symm
                omega
              case aL => omega
              intro v1 w3 hR3 hB3 hG3 hat3
              obtain ⟨zs, hzs⟩ : ∃ z, z = ys ++ [(i : Int)] := ⟨_, rfl⟩
              rw [← hzs] at hR3 ER2
              clear hzs
              obtain ⟨A1, c1, rfl⟩ := Kd.R_slice hR3
              have hX3 := blk_grown HM1.out.1 hG3 (Kd.R_away HM1.out.2.2.1 (fun q hq => hq.1))
              have HN := Aside0.mk (MkS.right HM1.out hR3 hB3 hG3 hat3)
              have c3 : w3.cell? ⟨g, 1, none⟩ = some vR := blk_cell hX3 1
              have f3 : w3.frozen? ⟨g, 1, none⟩ = false := blk_frozen hX3 1
              clear hX3 hR3 hB3 hG3 hat3 HM1 q0
              go_wp2
              go_roundg (L.length - (i + 1))
              case measure => omega
              case rel => exact ⟨i + 1, vL, _, xs, _, by omega, by omega, by go_num, HN, EL2, ER2⟩
            have EL2 : Aside0 (xs ++ sideOf k 1 (i + 1) (L.drop (i + 1)) = sideOf k 1 0 L) := ⟨by rw [← EL.out, SL.out, if_neg (by assumption)]⟩
            have ER2 : Aside0 (ys ++ sideOf k (-1) (i + 1) (L.drop (i + 1)) = sideOf k (-1) 0 L) := ⟨by rw [← ER.out, SR.out, if_neg hx]⟩
            clear EL ER SL SR
            go_wp2
            go_roundg (L.length - (i + 1))
            case measure => omega
            case rel => exact ⟨i + 1, vL, vR, xs, ys, by omega, by omega, by go_num, HM1, EL2, ER2⟩
          · have hilz : ¬ (i : Int) < (L.length : Int) := by omega
            obtain rfl : i = L.length := by omega
            obtain ⟨AL, cL, rfl⟩ := Kd.R_slice HM.out.2.1
            obtain ⟨AR, cR, rfl⟩ := Kd.R_slice HM.out.2.2.1
            obtain ⟨Av, cv, rfl⟩ := Kd.N_slice HO.out
            have c0 : wr.cell? ⟨g, 0, none⟩ = some (.slice AL xs.length cL) := blk_cell HM.out.1 0
            have c1 : wr.cell? ⟨g, 1, none⟩ = some (.slice AR ys.length cR) := blk_cell HM.out.1 1
            have hxe := Aside0.mk (show xs = sideOf k 1 0 L by rw [← EL.out, List.drop_length]; simp [sideOf])
            have hye := Aside0.mk (show ys = sideOf k (-1) 0 L by rw [← ER.out, List.drop_length]; simp [sideOf])
            have hol : out.length ≤ 3 := by rw [AX.out]; simp; omega
            go_wp2_with (first | (at_builtin; refine Kd.N_append k53 (w0 := w2) w2.heap.size rfl (.tmp 60) (.tmp 62) 22 53 (.agg #[(.slice none 0 0), (.slice none 0 0)]) 48 rfl Try.underlying22 info53 rfl (by decide) (by omega) (.slice Av out.length cv) out (⟨xs, ys⟩ : S53) [.slice AL xs.length cL, .slice AR ys.length cR] (fun k_ => w2.heap.size ≤ k_) (fun k_ => some k_ = (.slice AL xs.length cL : Value).ownBlock ∨ some k_ = (.slice AR ys.length cR : Value).ownBlock) rfl rfl ?aP ?aK ?aF ?aO ?aB ?aS ?aL ?_))
            case aP => exact Kd.FK_of_M (k53_mkM _ wo.heap.size _ (⟨xs, ys⟩ : S53) (Kd.R_mono (Kd.R_tight rfl HM.out.2.1) (fun _ h => Or.inl h)) (Kd.R_mono (Kd.R_tight rfl HM.out.2.2.1) (fun _ h => Or.inr h)))
            case aK =>
              intro q hq
              have h1 : wo.heap.size ≤ q := by
                rcases hq with h | h
                · exact Kd.R_base HM.out.2.1 q h.symm
                · exact Kd.R_base HM.out.2.2.1 q h.symm
              refine ⟨by have := BR.out.size; omega, fun he => ?_⟩
              have h2 := Kd.N_lt HO.out q he.symm
              omega
            case aF => intro q hq; have h1 := BR.out.size; have h2 := HM.out.2.2.2.1.size; omega
            case aO => exact Kd.N_below HO.out HM.out.2.2.2.1
            case aB => exact BR.out.trans (HM.out.2.2.2.1.mono BR.out.size)
            case aS => have h1 := BR.out.size; have h2 := HM.out.2.2.2.1.size; omega
            case aL => omega
            intro v1 w3 hN hB3 _ _
            have HN := Aside0.mk hN
            have HB3 := Aside0.mk hB3
            clear hN hB3
            go_wp2
            go_roundg (n - (k + 1))
            case measure => omega
            case rel =>
              refine ⟨k + 1, _, by omega, by omega, by go_num, HB3, HN, ⟨?_⟩⟩
              rw [AX.out, List.range_succ, List.map_append, hxe.out, hye.out]
              rfl
      · have hknz : ¬ (k : Int) < (n : Int) := by omega
        obtain rfl : k = n := by omega
        go_wp2
        go_ret3
        refine ⟨_, rfl, ?_, HB2.out.trans (BR.out.mono HB2.out.size)⟩
        have h := Kd.N_mono (ok' := fun k_ => w.heap.size ≤ k_) (Kd.N_lower HO.out HB2.out.size) (fun k hk => Nat.le_trans HB2.out.size hk)
        rw [AX.out] at h
        exact h
end Go.Proofs.Ytdbeochifofdoaa.X
end

section
-- Written by a program of this session (wip/hook.py, which runs the kit's print.py with contracts proved by hand). Not trusted: Lean checks it.
namespace Go.Proofs.Ytdbeochifofdoaa.X
open Go.RowKit Go.Proofs.YtdbeochifofdoaaW.PrintWords Go.Proofs.YtdbeochifofdoaaW.PrintLast Go.Proofs.YtdbeochifofdoaaW.PrintMore
attribute [local go_sem] max2_int min2_int max_two min_two max_three min_three max_four min_four   -- for this text's walks alone
set_option linter.unusedVariables false
set_option linter.unusedSimpArgs false

/-! ### verditerlaw06_WeighMakes: function 10 -/
def verditerlaw06_WeighMakes.j0 : Nat → Int → Int → List (S53) → Bool → Bool → Option (Bool)
  | 0, _, _, _, _, _ => none
  | k + 1, x0, x1, x7, x8, x32 => if x32 = true then (some false) else (if x8 = true then ((verditerref06_Tells.f k x0 x7).bind fun bt454 => (if (x7.length : Int) = x1 then (if bt454.2 = 0 then (if bt454.1 = true then ((verditerlaw06_known.f k).bind fun t456 => (some t456)) else (some false)) else (some false)) else (some false))) else (if (x7.length : Int) = 0 then ((verditerlaw06_known.f k).bind fun t457 => (some t457)) else (some false)))
def verditerlaw06_WeighMakes.f (k : Nat) (a0 : Int) (a1 : Int) : Option (Bool) := (verditerref06_CanTell.f a0 a1).bind fun bt447 => ((weigh_Make.f a0 a1).bind fun bt449 => (if (bt449.2.1 != bt447.1) = true then (verditerlaw06_WeighMakes.j0 k a0 a1 bt449.1 bt449.2.1 true) else (verditerlaw06_WeighMakes.j0 k a0 a1 bt449.1 bt449.2.1 (bt449.2.2 != bt447.2))))
theorem verditerlaw06_WeighMakes.mono_l : ∀ k, (∀ y0 y1 y2 y3 y4, LeO (verditerlaw06_WeighMakes.j0 k y0 y1 y2 y3 y4) (verditerlaw06_WeighMakes.j0 (k + 1) y0 y1 y2 y3 y4))
  | 0 => fun _ _ _ _ _ r h => by simp [verditerlaw06_WeighMakes.j0] at h
  | k + 1 => by
    have ih0 := verditerlaw06_WeighMakes.mono_l k
    · intro y0 y1 y2 y3 y4
      unfold verditerlaw06_WeighMakes.j0
      repeat' first
      | (with_reducible exact ih0 _ _ _ _ _)
      | (with_reducible exact verditerlaw06_known.mono _)
      | (with_reducible exact verditerref06_Tells.mono _ _ _)
      | (with_reducible exact LeO.refl _)
      | (with_reducible exact LeO.none _)
      | (with_reducible refine LeO.ite ?_ ?_)
      | (with_reducible refine LeO.bind ?_ (fun _ => ?_))
      | exact ih0 _ _ _ _ _
      | exact verditerlaw06_known.mono _
      | exact verditerref06_Tells.mono _ _ _
      | exact LeO.none _
      | refine LeO.ite ?_ ?_
      | refine LeO.bind ?_ (fun _ => ?_)
theorem verditerlaw06_WeighMakes.mono : ∀ a0 a1 k, LeO (verditerlaw06_WeighMakes.f k a0 a1) (verditerlaw06_WeighMakes.f (k + 1) a0 a1) := by
  intro a0 a1 k
  have ih0 := verditerlaw06_WeighMakes.mono_l k
  unfold verditerlaw06_WeighMakes.f
  repeat' first
      | (with_reducible exact ih0 _ _ _ _ _)
      | (with_reducible exact verditerlaw06_known.mono _)
      | (with_reducible exact verditerref06_Tells.mono _ _ _)
      | (with_reducible exact LeO.refl _)
      | (with_reducible exact LeO.none _)
      | (with_reducible refine LeO.ite ?_ ?_)
      | (with_reducible refine LeO.bind ?_ (fun _ => ?_))
      | exact ih0 _ _ _ _ _
      | exact verditerlaw06_known.mono _
      | exact verditerref06_Tells.mono _ _ _
      | exact LeO.none _
      | refine LeO.ite ?_ ?_
      | refine LeO.bind ?_ (fun _ => ?_)
set_option maxHeartbeats 8000000 in
set_option maxRecDepth 100000 in
theorem verditerlaw06_WeighMakes.calls (k : Nat) (a0 : Int) (a1 : Int) (r : Bool) (w : World) (h : verditerlaw06_WeighMakes.f k a0 a1 = some r) :
    Calls Try.prog 10 #[.int .i64 a0, .int .i64 a1] w fun e w' => e = .returned (.bool r) ∧ Below w.heap.size w w' := by
  have HB := Aside0.mk (Below.refl w.heap.size w)
  have H : ((verditerref06_CanTell.f a0 a1).bind fun bt447 => ((weigh_Make.f a0 a1).bind fun bt449 => (if (bt449.2.1 != bt447.1) = true then (verditerlaw06_WeighMakes.j0 k a0 a1 bt449.1 bt449.2.1 true) else (verditerlaw06_WeighMakes.j0 k a0 a1 bt449.1 bt449.2.1 (bt449.2.2 != bt447.2))))) = some r := h
  clear h
  replace H := Option.bind_eq_some_iff.mp H
  obtain ⟨⟨t447, t448⟩, A30, H⟩ := H
  replace H : ((weigh_Make.f a0 a1).bind fun bt449 => (if (bt449.2.1 != t447) = true then (verditerlaw06_WeighMakes.j0 k a0 a1 bt449.1 bt449.2.1 true) else (verditerlaw06_WeighMakes.j0 k a0 a1 bt449.1 bt449.2.1 (bt449.2.2 != t448)))) = some r := H
  have A3 := Aside0.mk A30
  clear A30
  replace H := Option.bind_eq_some_iff.mp H
  obtain ⟨⟨t449, t452, t453⟩, A40, H⟩ := H
  replace H : (if (t452 != t447) = true then (verditerlaw06_WeighMakes.j0 k a0 a1 t449 t452 true) else (verditerlaw06_WeighMakes.j0 k a0 a1 t449 t452 (t453 != t448))) = some r := H
  have A4 := Aside0.mk A40
  clear A40
  have HC5 := Aside0.mk H
  clear H
  go_enter Try.func10, Try.ntmps10
  go_upto_region 3 with (first | ((with_reducible refine gate_callee (f := 22) rfl ?_); refine goesL_ (some 15) rfl rfl Try.func22 (by kernel_rfl) rfl #[.int .i64 a0, .int .i64 a1] rfl (by (try simp only [List.map_toArray, List.map_cons, List.map_nil]); first | done | rfl | (simp only [List.length_drop, List.length_take]; rfl)) ?_; (with_reducible refine (verditerref06_CanTell.calls a0 a1 t447 t448 _ A3.out).mono ?_); rintro e w6 ⟨rfl, hb⟩; refine ⟨_, rfl, ?_⟩; have n0_ := Aside0.mk (below_step (by repeat (first | (with_reducible first | exact HB.out | apply below_alloc | apply pw_below_drewN | apply below_drew1) | exact HB.out)) hb); clear HB; have HB := n0_; clear n0_; (try clear hb); (try clear hb2); (try clear hk); (try clear hi)) | ((with_reducible refine gate_callee (f := 31) rfl ?_); refine goesL_ (some 21) rfl rfl Try.func31 (by kernel_rfl) rfl #[.int .i64 a0, .int .i64 a1] rfl (by (try simp only [List.map_toArray, List.map_cons, List.map_nil]); first | done | rfl | (simp only [List.length_drop, List.length_take]; rfl)) ?_; (with_reducible refine (weigh_Make.calls a0 a1 t449 t452 t453 _ A4.out).mono ?_); rintro e w7 ⟨v450, rfl, ho0, hb⟩; refine ⟨_, rfl, ?_⟩; have n0_ := Aside0.mk (Kd.N_lower (Kd.N_mono (ok' := fun k_ => True) ho0 (fun k_ hk_ => trivial)) (below_size (by repeat (first | (with_reducible first | exact HB.out | apply below_alloc | apply pw_below_drewN | apply below_drew1) | exact HB.out)))); have n1_ := Aside0.mk (below_step (by repeat (first | (with_reducible first | exact HB.out | apply below_alloc | apply pw_below_drewN | apply below_drew1) | exact HB.out)) hb); clear HB; have HO451 := n0_; have HB := n1_; clear n0_ n1_; (try clear hb); (try clear hb2); (try clear hk); (try clear hi); (try clear ho0)))
  (try simp only [Act.put, List.setIfInBounds_toArray, List.set_cons_zero, List.set_cons_succ])
  go_cut [32] (fun v32 wc => ∃ (kq : Nat) (x32_4 : Bool), v32 = .bool x32_4 ∧ Aside0 (verditerlaw06_WeighMakes.j0 kq a0 a1 t449 t452 x32_4 = some r) ∧ Aside0 (kq ≤ k) ∧ Aside0 (Kd.N k53 53 wc w.heap.size (fun _ => True) v450 t449) ∧ Aside0 (Below w.heap.size w wc))
  case first =>
    have H := HC5.out
    clear HC5
    by_cases c8 : (t452 != t447) = true
    · rw [if_pos c8] at H
      have c8b0 : (t452 != t447) = true := c8
      (try (have c8b1 : decide (t452 = t447) = false := by simpa using c8))
      (try (have c8b2 : (t452 == t447) = false := by simpa using c8))
      (try (have c8b3 : ¬ (t452 = t447) := by simpa using c8))
      clear c8
      (first | rw [c8b0] | (simp only [i64_w, i32_w]; rw [c8b0]) | skip)
      have H' := Aside0.mk H
      clear H
      go_wp2
      go_meet
      case rel => exact ⟨_, (true), (by first | rfl | (simp; done) | (simp [*]; done)), H', ⟨by first | omega | exact Nat.le_refl _⟩, ⟨by (with_reducible repeat (first | apply Kd.N_alloc | apply Kd.N_drewN | apply Kd.N_drew)); exact HO451.out⟩, ⟨by repeat (first | (with_reducible first | exact HB.out | apply below_alloc | apply pw_below_drewN | apply below_drew1) | exact HB.out)⟩⟩
    · rw [if_neg c8] at H
      have c8b0 : (t452 != t447) = false := by simpa using c8
      (try (have c8b1 : decide (t452 = t447) = true := by simpa using c8))
      (try (have c8b2 : (t452 == t447) = true := by simpa using c8))
      clear c8
      (first | rw [c8b0] | (simp only [i64_w, i32_w]; rw [c8b0]) | skip)
      have H' := Aside0.mk H
      clear H
      go_wp2
      go_meet
      case rel => exact ⟨_, ((t453 != t448)), (by first | rfl | (simp; done) | (simp [*]; done)), H', ⟨by first | omega | exact Nat.le_refl _⟩, ⟨by (with_reducible repeat (first | apply Kd.N_alloc | apply Kd.N_drewN | apply Kd.N_drew)); exact HO451.out⟩, ⟨by repeat (first | (with_reducible first | exact HB.out | apply below_alloc | apply pw_below_drewN | apply below_drew1) | exact HB.out)⟩⟩
  case rest =>
    clear HC5
    try clear c1
    try clear c2
    try clear p2
    try clear c3
    try clear c8
    try clear c8b0
    try clear c8b1
    try clear c8b2
    obtain ⟨kq, x32_4, rfl, HA, HJ4, HO_7, HB⟩ := hcut
    cases kq with
    | zero => exact absurd HA.out (by simp [verditerlaw06_WeighMakes.j0])
    | succ kj4 =>
      have H := HA.out
      clear HA
      simp only [verditerlaw06_WeighMakes.j0] at H
      by_cases c9 : x32_4 = true
      · subst c9
        have H1 : (some false) = some r := by rw [if_pos rfl] at H; exact H
        clear H
        have H := H1
        clear H1
        obtain rfl := Option.some.inj H
        go_wp2
        go_ret
        exact ⟨by first | rfl | (simp [errW_none, errW_some] <;> rfl) | (simp [*, errW_none, errW_some] <;> rfl), by repeat (first | (with_reducible first | exact HB.out | apply below_alloc | apply pw_below_drewN | apply below_drew1) | exact HB.out)⟩
      · replace c9 := Bool.eq_false_iff.mpr c9
        subst c9
        have H1 : (if t452 = true then ((verditerref06_Tells.f kj4 a0 t449).bind fun bt454 => (if (t449.length : Int) = a1 then (if bt454.2 = 0 then (if bt454.1 = true then ((verditerlaw06_known.f kj4).bind fun t456 => (some t456)) else (some false)) else (some false)) else (some false))) else (if (t449.length : Int) = 0 then ((verditerlaw06_known.f kj4).bind fun t457 => (some t457)) else (some false))) = some r := by rw [if_neg (show ¬ (false = true) by decide)] at H; exact H
        clear H
        have H := H1
        clear H1
        by_cases c10 : t452 = true
        · subst c10
          have H1 : ((verditerref06_Tells.f kj4 a0 t449).bind fun bt454 => (if (t449.length : Int) = a1 then (if bt454.2 = 0 then (if bt454.1 = true then ((verditerlaw06_known.f kj4).bind fun t456 => (some t456)) else (some false)) else (some false)) else (some false))) = some r := by rw [if_pos rfl] at H; exact H
          clear H
          have H := H1
          clear H1
          replace H := Option.bind_eq_some_iff.mp H
          obtain ⟨⟨t454, t455⟩, A110, H⟩ := H
          replace H : (if (t449.length : Int) = a1 then (if t455 = 0 then (if t454 = true then ((verditerlaw06_known.f kj4).bind fun t456 => (some t456)) else (some false)) else (some false)) else (some false)) = some r := H
          have A11 := Aside0.mk A110
          clear A110
          by_cases c12 : (t449.length : Int) = a1
          · rw [if_pos c12] at H
            have c12b0 : ((t449.length : Int) == a1) = true := beq_iff_eq.mpr c12
            have c12b1 : ((t449.length : Int) != a1) = false := bne_eq_false_iff_eq.mpr c12
            clear c12
            by_cases c13 : t455 = 0
            · rw [if_pos c13] at H
              have c13b0 : (t455 == 0) = true := beq_iff_eq.mpr c13
              have c13b1 : (t455 != 0) = false := bne_eq_false_iff_eq.mpr c13
              clear c13
              by_cases c14 : t454 = true
              · subst c14
                have H1 : ((verditerlaw06_known.f kj4).bind fun t456 => (some t456)) = some r := by rw [if_pos rfl] at H; exact H
                clear H
                have H := H1
                clear H1
                replace H := Option.bind_eq_some_iff.mp H
                obtain ⟨t456, A150, H⟩ := H
                replace H : (some t456) = some r := H
                have A15 := Aside0.mk A150
                clear A150
                obtain rfl := Option.some.inj H
                obtain ⟨Ao16, co16, eo16⟩ := Kd.N_slice HO_7.out
                subst eo16
                go_wp2_with (first | ((with_reducible refine gate_callee (f := 32) rfl ?_); refine goesL_ (some 44) rfl rfl Try.func32 (by kernel_rfl) rfl #[.int .i64 a0, .slice Ao16 t449.length co16] rfl (by (try simp only [List.map_toArray, List.map_cons, List.map_nil]); first | done | rfl | (simp only [List.length_drop, List.length_take]; rfl)) ?_; (with_reducible refine (verditerref06_Tells.calls kj4 a0 _ _ t449 true t455 _ ?side1 ?side2 A11.out).mono ?_); (case side1 => repeat (first | exact (Kd.N_reads' HO_7.out).2.2 | (with_reducible refine Kd.C_alloc ?_ _) | (with_reducible refine Kd.C_drewN ?_ _) | (with_reducible refine Kd.C_drew ?_))); (case side2 => exact (Kd.N_reads' HO_7.out).2.1); rintro e w17 ⟨rfl, hb⟩; refine ⟨_, rfl, ?_⟩; have n0_ := Aside0.mk (Kd.N_below (by (with_reducible repeat (first | apply Kd.N_alloc | apply Kd.N_drewN | apply Kd.N_drew)); exact HO_7.out) hb); have n1_ := Aside0.mk (below_step (by repeat (first | (with_reducible first | exact HB.out | apply below_alloc | apply pw_below_drewN | apply below_drew1) | exact HB.out)) hb); clear HO_7; clear HB; have HO_7 := n0_; have HB := n1_; clear n0_ n1_; (try clear hb); (try clear hb2); (try clear hk); (try clear hi)) | (go_at_call 25; (with_reducible refine (verditerlaw06_known.calls kj4  t456 _ A15.out).mono ?_); rintro e w18 ⟨rfl, hb⟩; have n0_ := Aside0.mk (Kd.N_below (by (with_reducible repeat (first | apply Kd.N_alloc | apply Kd.N_drewN | apply Kd.N_drew)); exact HO_7.out) hb); have n1_ := Aside0.mk (below_step (by repeat (first | (with_reducible first | exact HB.out | apply below_alloc | apply pw_below_drewN | apply below_drew1) | exact HB.out)) hb); clear HO_7; clear HB; have HO_7 := n0_; have HB := n1_; clear n0_ n1_; (try clear hb); (try clear hb2); (try clear hk); (try clear hi)))
                go_ret
                exact ⟨by first | rfl | (simp [errW_none, errW_some] <;> rfl) | (simp [*, errW_none, errW_some] <;> rfl), by repeat (first | (with_reducible first | exact HB.out | apply below_alloc | apply pw_below_drewN | apply below_drew1) | exact HB.out)⟩
              · replace c14 := Bool.eq_false_iff.mpr c14
                subst c14
                have H1 : (some false) = some r := by rw [if_neg (show ¬ (false = true) by decide)] at H; exact H
                clear H
                have H := H1
                clear H1
                obtain rfl := Option.some.inj H
                obtain ⟨Ao19, co19, eo19⟩ := Kd.N_slice HO_7.out
                subst eo19
                go_wp2_with (first | ((with_reducible refine gate_callee (f := 32) rfl ?_); refine goesL_ (some 44) rfl rfl Try.func32 (by kernel_rfl) rfl #[.int .i64 a0, .slice Ao19 t449.length co19] rfl (by (try simp only [List.map_toArray, List.map_cons, List.map_nil]); first | done | rfl | (simp only [List.length_drop, List.length_take]; rfl)) ?_; (with_reducible refine (verditerref06_Tells.calls kj4 a0 _ _ t449 false t455 _ ?side1 ?side2 A11.out).mono ?_); (case side1 => repeat (first | exact (Kd.N_reads' HO_7.out).2.2 | (with_reducible refine Kd.C_alloc ?_ _) | (with_reducible refine Kd.C_drewN ?_ _) | (with_reducible refine Kd.C_drew ?_))); (case side2 => exact (Kd.N_reads' HO_7.out).2.1); rintro e w20 ⟨rfl, hb⟩; refine ⟨_, rfl, ?_⟩; have n0_ := Aside0.mk (Kd.N_below (by (with_reducible repeat (first | apply Kd.N_alloc | apply Kd.N_drewN | apply Kd.N_drew)); exact HO_7.out) hb); have n1_ := Aside0.mk (below_step (by repeat (first | (with_reducible first | exact HB.out | apply below_alloc | apply pw_below_drewN | apply below_drew1) | exact HB.out)) hb); clear HO_7; clear HB; have HO_7 := n0_; have HB := n1_; clear n0_ n1_; (try clear hb); (try clear hb2); (try clear hk); (try clear hi)))
                go_ret
                exact ⟨by first | rfl | (simp [errW_none, errW_some] <;> rfl) | (simp [*, errW_none, errW_some] <;> rfl), by repeat (first | (with_reducible first | exact HB.out | apply below_alloc | apply pw_below_drewN | apply below_drew1) | exact HB.out)⟩
            · rw [if_neg c13] at H
              have c13b0 : (t455 == 0) = false := beq_eq_false_iff_ne.mpr c13
              have c13b1 : (t455 != 0) = true := bne_iff_ne.mpr c13
              obtain rfl := Option.some.inj H
              obtain ⟨Ao21, co21, eo21⟩ := Kd.N_slice HO_7.out
              subst eo21
              go_wp2_with (first | ((with_reducible refine gate_callee (f := 32) rfl ?_); refine goesL_ (some 44) rfl rfl Try.func32 (by kernel_rfl) rfl #[.int .i64 a0, .slice Ao21 t449.length co21] rfl (by (try simp only [List.map_toArray, List.map_cons, List.map_nil]); first | done | rfl | (simp only [List.length_drop, List.length_take]; rfl)) ?_; (with_reducible refine (verditerref06_Tells.calls kj4 a0 _ _ t449 t454 t455 _ ?side1 ?side2 A11.out).mono ?_); (case side1 => repeat (first | exact (Kd.N_reads' HO_7.out).2.2 | (with_reducible refine Kd.C_alloc ?_ _) | (with_reducible refine Kd.C_drewN ?_ _) | (with_reducible refine Kd.C_drew ?_))); (case side2 => exact (Kd.N_reads' HO_7.out).2.1); rintro e w22 ⟨rfl, hb⟩; refine ⟨_, rfl, ?_⟩; have n0_ := Aside0.mk (Kd.N_below (by (with_reducible repeat (first | apply Kd.N_alloc | apply Kd.N_drewN | apply Kd.N_drew)); exact HO_7.out) hb); have n1_ := Aside0.mk (below_step (by repeat (first | (with_reducible first | exact HB.out | apply below_alloc | apply pw_below_drewN | apply below_drew1) | exact HB.out)) hb); clear HO_7; clear HB; have HO_7 := n0_; have HB := n1_; clear n0_ n1_; (try clear hb); (try clear hb2); (try clear hk); (try clear hi)))
              go_ret
              exact ⟨by first | rfl | (simp [errW_none, errW_some] <;> rfl) | (simp [*, errW_none, errW_some] <;> rfl), by repeat (first | (with_reducible first | exact HB.out | apply below_alloc | apply pw_below_drewN | apply below_drew1) | exact HB.out)⟩
          · rw [if_neg c12] at H
            have c12b0 : ((t449.length : Int) == a1) = false := beq_eq_false_iff_ne.mpr c12
            have c12b1 : ((t449.length : Int) != a1) = true := bne_iff_ne.mpr c12
            obtain rfl := Option.some.inj H
            obtain ⟨Ao23, co23, eo23⟩ := Kd.N_slice HO_7.out
            subst eo23
            go_wp2_with (first | ((with_reducible refine gate_callee (f := 32) rfl ?_); refine goesL_ (some 44) rfl rfl Try.func32 (by kernel_rfl) rfl #[.int .i64 a0, .slice Ao23 t449.length co23] rfl (by (try simp only [List.map_toArray, List.map_cons, List.map_nil]); first | done | rfl | (simp only [List.length_drop, List.length_take]; rfl)) ?_; (with_reducible refine (verditerref06_Tells.calls kj4 a0 _ _ t449 t454 t455 _ ?side1 ?side2 A11.out).mono ?_); (case side1 => repeat (first | exact (Kd.N_reads' HO_7.out).2.2 | (with_reducible refine Kd.C_alloc ?_ _) | (with_reducible refine Kd.C_drewN ?_ _) | (with_reducible refine Kd.C_drew ?_))); (case side2 => exact (Kd.N_reads' HO_7.out).2.1); rintro e w24 ⟨rfl, hb⟩; refine ⟨_, rfl, ?_⟩; have n0_ := Aside0.mk (Kd.N_below (by (with_reducible repeat (first | apply Kd.N_alloc | apply Kd.N_drewN | apply Kd.N_drew)); exact HO_7.out) hb); have n1_ := Aside0.mk (below_step (by repeat (first | (with_reducible first | exact HB.out | apply below_alloc | apply pw_below_drewN | apply below_drew1) | exact HB.out)) hb); clear HO_7; clear HB; have HO_7 := n0_; have HB := n1_; clear n0_ n1_; (try clear hb); (try clear hb2); (try clear hk); (try clear hi)))
            go_ret
            exact ⟨by first | rfl | (simp [errW_none, errW_some] <;> rfl) | (simp [*, errW_none, errW_some] <;> rfl), by repeat (first | (with_reducible first | exact HB.out | apply below_alloc | apply pw_below_drewN | apply below_drew1) | exact HB.out)⟩
        · replace c10 := Bool.eq_false_iff.mpr c10
          subst c10
          have H1 : (if (t449.length : Int) = 0 then ((verditerlaw06_known.f kj4).bind fun t457 => (some t457)) else (some false)) = some r := by rw [if_neg (show ¬ (false = true) by decide)] at H; exact H
          clear H
          have H := H1
          clear H1
          by_cases c25 : (t449.length : Int) = 0
          · rw [if_pos c25] at H
            have c25b0 : ((t449.length : Int) == 0) = true := beq_iff_eq.mpr c25
            have c25b1 : ((t449.length : Int) != 0) = false := bne_eq_false_iff_eq.mpr c25
            clear c25
            replace H := Option.bind_eq_some_iff.mp H
            obtain ⟨t457, A260, H⟩ := H
            replace H : (some t457) = some r := H
            have A26 := Aside0.mk A260
            clear A260
            obtain rfl := Option.some.inj H
            obtain ⟨Ao27, co27, eo27⟩ := Kd.N_slice HO_7.out
            subst eo27
            go_wp2_with (first | (go_at_call 25; (with_reducible refine (verditerlaw06_known.calls kj4  t457 _ A26.out).mono ?_); rintro e w28 ⟨rfl, hb⟩; have n0_ := Aside0.mk (Kd.N_below (by (with_reducible repeat (first | apply Kd.N_alloc | apply Kd.N_drewN | apply Kd.N_drew)); exact HO_7.out) hb); have n1_ := Aside0.mk (below_step (by repeat (first | (with_reducible first | exact HB.out | apply below_alloc | apply pw_below_drewN | apply below_drew1) | exact HB.out)) hb); clear HO_7; clear HB; have HO_7 := n0_; have HB := n1_; clear n0_ n1_; (try clear hb); (try clear hb2); (try clear hk); (try clear hi)))
            go_ret
            exact ⟨by first | rfl | (simp [errW_none, errW_some] <;> rfl) | (simp [*, errW_none, errW_some] <;> rfl), by repeat (first | (with_reducible first | exact HB.out | apply below_alloc | apply pw_below_drewN | apply below_drew1) | exact HB.out)⟩
          · rw [if_neg c25] at H
            have c25b0 : ((t449.length : Int) == 0) = false := beq_eq_false_iff_ne.mpr c25
            have c25b1 : ((t449.length : Int) != 0) = true := bne_iff_ne.mpr c25
            have c25b2 : ¬ (t449 = []) := fun h_ => c25 (by rw [h_]; rfl)
            obtain rfl := Option.some.inj H
            obtain ⟨Ao29, co29, eo29⟩ := Kd.N_slice HO_7.out
            subst eo29
            go_wp2
            go_ret
            exact ⟨by first | rfl | (simp [errW_none, errW_some] <;> rfl) | (simp [*, errW_none, errW_some] <;> rfl), by repeat (first | (with_reducible first | exact HB.out | apply below_alloc | apply pw_below_drewN | apply below_drew1) | exact HB.out)⟩

/-- THE ONE PURE STATEMENT of verditerlaw06_WeighMakes: yours. -/
def verditerlaw06_WeighMakes.Pure : Prop := ∀ (a0 : Int) (a1 : Int), (Lit.int .i64 a0).wf = true → (Lit.int .i64 a1).wf = true → ∃ k, verditerlaw06_WeighMakes.f k a0 a1 = some true
theorem verditerlaw06_WeighMakes.walk (P : verditerlaw06_WeighMakes.Pure) (a0 : Int) (a1 : Int) (w : World) (w0 : (Lit.int .i64 a0).wf = true) (w1 : (Lit.int .i64 a1).wf = true) :
    Calls Try.prog 10 #[.int .i64 a0, .int .i64 a1] w fun e w' => e = .returned (.bool true) ∧ Below w.heap.size w w' := by
  obtain ⟨k, h⟩ := P a0 a1 w0 w1
  refine (verditerlaw06_WeighMakes.calls k a0 a1 true w h).mono ?_
  rintro e w' ⟨rfl, hd⟩
  exact ⟨rfl, hd⟩

end Go.Proofs.Ytdbeochifofdoaa.X
end

section
/-! The two searches, carried out. -/
namespace Go.Proofs.Ytdbeochifofdoaa.X
open Go.RowKit
/-- Can so many lots be told with so many weighings? -/
def tblM (w : Nat) (i : Nat) : Bool := if w = 2 then i == 3 else if w = 3 then decide (3 ≤ i) && decide (i ≤ 12) else false
set_option maxRecDepth 100000 in
theorem tblA : ∀ w, w < 4 → ∀ i, i < 13 → (searchA ((i + 1 : Nat) : Int) w).isSome = tblM w (i + 1) := by decide +kernel
set_option maxRecDepth 100000 in
theorem tblS : ∀ w, w < 4 → ∀ i, i < 13 → someB (ml9 ((w : Nat) : Int) 27) ((i + 1 : Nat) : Int) 0 0 0 = tblM w (i + 1) := by decide +kernel
end Go.Proofs.Ytdbeochifofdoaa.X
end

section
-- Written by a program of this session (wip/hook.py, which runs the kit's print.py with contracts proved by hand). Not trusted: Lean checks it.
namespace Go.Proofs.Ytdbeochifofdoaa.X
open Go.RowKit Go.Proofs.YtdbeochifofdoaaW.PrintWords Go.Proofs.YtdbeochifofdoaaW.PrintLast Go.Proofs.YtdbeochifofdoaaW.PrintMore
attribute [local go_sem] max2_int min2_int max_two min_two max_three min_three max_four min_four   -- for this text's walks alone
set_option linter.unusedVariables false
set_option linter.unusedSimpArgs false

/-! ### verditerref06_Most: function 21 -/
def verditerref06_Most.l0 : Nat → Int → Int → Option (Int × Int)
  | 0, _, _ => none
  | k + 1, x0, x5 => if x5 > 0 then ((verditerref06_can.f x5 x0).bind fun t303 => (if t303 = true then (some (x5, 0)) else (verditerref06_Most.l0 k x0 (wrap64 (x5 - 1))))) else (some (0, 0))
def verditerref06_Most.f (k : Nat) (a0 : Int) : Option (Int × Int) := (verditerref06_numbered.f 1 a0).bind fun t302 => (if t302 = 0 then (verditerref06_Most.l0 k a0 13) else (some (0, t302)))
theorem verditerref06_Most.mono_l : ∀ k, (∀ y0 y1, LeO (verditerref06_Most.l0 k y0 y1) (verditerref06_Most.l0 (k + 1) y0 y1))
  | 0 => fun _ _ r h => by simp [verditerref06_Most.l0] at h
  | k + 1 => by
    have ih0 := verditerref06_Most.mono_l k
    · intro y0 y1
      unfold verditerref06_Most.l0
      repeat' first
      | (with_reducible exact ih0 _ _)
      | (with_reducible exact LeO.refl _)
      | (with_reducible exact LeO.none _)
      | (with_reducible refine LeO.ite ?_ ?_)
      | (with_reducible refine LeO.bind ?_ (fun _ => ?_))
      | exact ih0 _ _
      | exact LeO.none _
      | refine LeO.ite ?_ ?_
      | refine LeO.bind ?_ (fun _ => ?_)
theorem verditerref06_Most.mono : ∀ a0 k, LeO (verditerref06_Most.f k a0) (verditerref06_Most.f (k + 1) a0) := by
  intro a0 k
  have ih0 := verditerref06_Most.mono_l k
  unfold verditerref06_Most.f
  repeat' first
      | (with_reducible exact ih0 _ _)
      | (with_reducible exact LeO.refl _)
      | (with_reducible exact LeO.none _)
      | (with_reducible refine LeO.ite ?_ ?_)
      | (with_reducible refine LeO.bind ?_ (fun _ => ?_))
      | exact ih0 _ _
      | exact LeO.none _
      | refine LeO.ite ?_ ?_
      | refine LeO.bind ?_ (fun _ => ?_)
set_option maxHeartbeats 8000000 in
set_option maxRecDepth 100000 in
theorem verditerref06_Most.calls (k : Nat) (a0 : Int) (r1 : Int) (r2 : Int) (w : World) (h : verditerref06_Most.f k a0 = some (r1, r2)) :
    Calls Try.prog 21 #[.int .i64 a0] w fun e w' => e = .returned (.tuple #[.int .i64 r1, .int .i64 r2]) ∧ Below w.heap.size w w' := by
  have HB := Aside0.mk (Below.refl w.heap.size w)
  have H : ((verditerref06_numbered.f 1 a0).bind fun t302 => (if t302 = 0 then (verditerref06_Most.l0 k a0 13) else (some (0, t302)))) = some (r1, r2) := h
  clear h
  replace H := Option.bind_eq_some_iff.mp H
  obtain ⟨t302, A20, H⟩ := H
  replace H : (if t302 = 0 then (verditerref06_Most.l0 k a0 13) else (some (0, t302))) = some (r1, r2) := H
  have A2 := Aside0.mk A20
  clear A20
  by_cases c3 : t302 = 0
  · rw [if_pos c3] at H
    have c3b0 : (t302 == 0) = true := beq_iff_eq.mpr c3
    have c3b1 : (t302 != 0) = false := bne_eq_false_iff_eq.mpr c3
    clear c3
    have H' := Aside0.mk H
    clear H
    go_enter Try.func21, Try.ntmps21
    go_wp2_with (first | ((with_reducible refine gate_callee (f := 47) rfl ?_); refine goesL_ (some 7) rfl rfl Try.func47 (by kernel_rfl) rfl #[.int .i64 1, .int .i64 a0] rfl (by (try simp only [List.map_toArray, List.map_cons, List.map_nil]); first | done | rfl | (simp only [List.length_drop, List.length_take]; rfl)) ?_; (with_reducible refine (verditerref06_numbered.calls 1 a0 t302 _ A2.out).mono ?_); rintro e w' ⟨rfl, ⟨nd, rfl⟩⟩; refine ⟨_, rfl, ?_⟩))
    go_loopg [5] k (fun kq v5 w' => ∃ (x5_1 : Int), v5 = .int .i64 x5_1 ∧ Aside0 (verditerref06_Most.l0 kq a0 x5_1 = some (r1, r2)) ∧ Aside0 (kq ≤ k) ∧ Aside0 (Below w.heap.size w w'))
    case atStart => exact ⟨(13), (by first | rfl | (simp; done) | (simp [*]; done)), H', ⟨Nat.le_refl _⟩, ⟨by repeat (first | (with_reducible first | exact HB.out | apply below_alloc | apply pw_below_drewN | apply below_drew1) | exact HB.out)⟩⟩
    case round =>
      clear H'
      try clear c2
      try clear p2
      try clear c3
      try clear c3b0
      try clear c3b1
      obtain ⟨x5_1, rfl, HA, HK1, HB⟩ := hrel
      cases gk with
      | zero => exact absurd HA.out (by simp [verditerref06_Most.l0])
      | succ k1 =>
        have H := HA.out
        clear HA
        simp only [verditerref06_Most.l0] at H
        by_cases c4 : x5_1 > 0
        · rw [if_pos c4] at H
          have c4b0 : decide (0 < x5_1) = true := decide_eq_true c4
          clear c4
          replace H := Option.bind_eq_some_iff.mp H
          obtain ⟨t303, A50, H⟩ := H
          replace H : (if t303 = true then (some (x5_1, 0)) else (verditerref06_Most.l0 k1 a0 (wrap64 (x5_1 - 1)))) = some (r1, r2) := H
          have A5 := Aside0.mk A50
          clear A50
          by_cases c6 : t303 = true
          · subst c6
            have H1 : (some (x5_1, 0)) = some (r1, r2) := by rw [if_pos rfl] at H; exact H
            clear H
            have H := H1
            clear H1
            simp only [Option.some.injEq, Prod.mk.injEq] at H
            obtain ⟨rfl, rfl⟩ := H
            go_wp2_with (first | ((with_reducible refine gate_callee (f := 48) rfl ?_); refine goesL_ (some 17) rfl rfl Try.func48 (by kernel_rfl) rfl #[.int .i64 x5_1, .int .i64 a0] rfl (by (try simp only [List.map_toArray, List.map_cons, List.map_nil]); first | done | rfl | (simp only [List.length_drop, List.length_take]; rfl)) ?_; (with_reducible refine (verditerref06_can.calls x5_1 a0 true _ A5.out).mono ?_); rintro e w7 ⟨rfl, hb⟩; refine ⟨_, rfl, ?_⟩; have n0_ := Aside0.mk (below_step (by repeat (first | (with_reducible first | exact HB.out | apply below_alloc | apply pw_below_drewN | apply below_drew1) | exact HB.out)) hb); clear HB; have HB := n0_; clear n0_; (try clear hb); (try clear hb2); (try clear hk); (try clear hi)))
            go_ret2
            exact ⟨by first | rfl | (simp [errW_none, errW_some] <;> rfl) | (simp [*, errW_none, errW_some] <;> rfl), by repeat (first | (with_reducible first | exact HB.out | apply below_alloc | apply pw_below_drewN | apply below_drew1) | exact HB.out)⟩
          · replace c6 := Bool.eq_false_iff.mpr c6
            subst c6
            have H1 : (verditerref06_Most.l0 k1 a0 (wrap64 (x5_1 - 1))) = some (r1, r2) := by rw [if_neg (show ¬ (false = true) by decide)] at H; exact H
            clear H
            have H := H1
            clear H1
            have H' := Aside0.mk H
            clear H
            go_wp2_with (first | ((with_reducible refine gate_callee (f := 48) rfl ?_); refine goesL_ (some 17) rfl rfl Try.func48 (by kernel_rfl) rfl #[.int .i64 x5_1, .int .i64 a0] rfl (by (try simp only [List.map_toArray, List.map_cons, List.map_nil]); first | done | rfl | (simp only [List.length_drop, List.length_take]; rfl)) ?_; (with_reducible refine (verditerref06_can.calls x5_1 a0 false _ A5.out).mono ?_); rintro e w8 ⟨rfl, hb⟩; refine ⟨_, rfl, ?_⟩; have n0_ := Aside0.mk (below_step (by repeat (first | (with_reducible first | exact HB.out | apply below_alloc | apply pw_below_drewN | apply below_drew1) | exact HB.out)) hb); clear HB; have HB := n0_; clear n0_; (try clear hb); (try clear hb2); (try clear hk); (try clear hi)))
            go_roundg k1
            case measure => have := HK1.out; omega
            case rel => exact ⟨(wrap64 (x5_1 - 1)), (by first | rfl | (simp; done) | (simp [*]; done)), H', ⟨by have := HK1.out; omega⟩, ⟨by repeat (first | (with_reducible first | exact HB.out | apply below_alloc | apply pw_below_drewN | apply below_drew1) | exact HB.out)⟩⟩
        · rw [if_neg c4] at H
          have c4b0 : decide (0 < x5_1) = false := decide_eq_false c4
          clear c4
          simp only [Option.some.injEq, Prod.mk.injEq] at H
          obtain ⟨rfl, rfl⟩ := H
          go_wp2
          go_ret2
          exact ⟨by first | rfl | (simp [errW_none, errW_some] <;> rfl) | (simp [*, errW_none, errW_some] <;> rfl), by repeat (first | (with_reducible first | exact HB.out | apply below_alloc | apply pw_below_drewN | apply below_drew1) | exact HB.out)⟩
  · rw [if_neg c3] at H
    have c3b0 : (t302 == 0) = false := beq_eq_false_iff_ne.mpr c3
    have c3b1 : (t302 != 0) = true := bne_iff_ne.mpr c3
    simp only [Option.some.injEq, Prod.mk.injEq] at H
    obtain ⟨rfl, rfl⟩ := H
    go_enter Try.func21, Try.ntmps21
    go_wp2_with (first | ((with_reducible refine gate_callee (f := 47) rfl ?_); refine goesL_ (some 7) rfl rfl Try.func47 (by kernel_rfl) rfl #[.int .i64 1, .int .i64 a0] rfl (by (try simp only [List.map_toArray, List.map_cons, List.map_nil]); first | done | rfl | (simp only [List.length_drop, List.length_take]; rfl)) ?_; (with_reducible refine (verditerref06_numbered.calls 1 a0 t302 _ A2.out).mono ?_); rintro e w' ⟨rfl, ⟨nd, rfl⟩⟩; refine ⟨_, rfl, ?_⟩))
    go_ret2
    exact ⟨by first | rfl | (simp [errW_none, errW_some] <;> rfl) | (simp [*, errW_none, errW_some] <;> rfl), by repeat (first | (with_reducible first | exact HB.out | apply below_alloc | apply pw_below_drewN | apply below_drew1) | exact HB.out)⟩

end Go.Proofs.Ytdbeochifofdoaa.X
end

section
/-! The plain facts of how many lots can be told, by the program's search and by the document's. -/
namespace Go.Proofs.Ytdbeochifofdoaa.X
open Go.RowKit Go.Proofs.YtdbeochifofdoaaW.PrintWords
set_option linter.unusedSimpArgs false
set_option linter.unusedVariables false
set_option maxRecDepth 100000 in
theorem known_true : verditerlaw06_known.f 20 = some true := by decide +kernel
theorem search_2 (w n : Nat) (hw : w < 4) (h1 : 1 ≤ n) (h2 : n ≤ 13) : weigh_search.f n w = some ((searchR n w).1, tblM w n) := by
  unfold weigh_search.f
  rw [if_pos ⟨⟨by omega, by omega⟩, by omega, by omega⟩]
  rw [show ((w : Nat) : Int).toNat = w from rfl]
  have h := tblA w hw (n - 1) (by omega)
  rw [show n - 1 + 1 = n by omega] at h
  rw [← h]
  unfold searchR
  cases searchA (n : Int) w <;> rfl
theorem can_2 (w n : Nat) (hw : w < 4) (h1 : 1 ≤ n) (h2 : n ≤ 13) : verditerref06_can.f n w = some (tblM w n) := by
  unfold verditerref06_can.f verditerref06_marks.f verditerref06_some.f
  have h := tblS w hw (n - 1) (by omega)
  rw [show n - 1 + 1 = n by omega] at h
  simp only [Option.bind_some]
  rw [if_pos (by omega), h]
  rfl
theorem within_is (a lo hi : Int) : weigh_within.f a lo hi = some (decide (lo ≤ a ∧ a ≤ hi)) := by
  unfold weigh_within.f
  by_cases h : a ≥ lo
  · rw [if_pos h]; simp [show lo ≤ a from h]
  · rw [if_neg h]; simp [show ¬ lo ≤ a from h]
theorem rwithin_is (a lo hi : Int) : verditerref06_within.f a lo hi = some (decide (lo ≤ a ∧ a ≤ hi)) := by
  unfold verditerref06_within.f
  by_cases h : a ≥ lo
  · rw [if_pos h]; simp [show lo ≤ a from h]
  · rw [if_neg h]; simp [show ¬ lo ≤ a from h]
theorem counted_in {a b : Int} (h : (1 ≤ a ∧ a ≤ 13) ∧ 0 ≤ b ∧ b ≤ 3) : weigh_counted.f a b = some 0 := by
  unfold weigh_counted.f
  simp [within_is, h]
theorem counted_out {a b : Int} (h : ¬ ((1 ≤ a ∧ a ≤ 13) ∧ 0 ≤ b ∧ b ≤ 3)) : weigh_counted.f a b = some 1 := by
  unfold weigh_counted.f
  simp only [within_is, Option.bind_some, decide_eq_true_eq]
  by_cases h1 : 1 ≤ a ∧ a ≤ 13
  · rw [if_pos h1, if_neg (fun h2 => h ⟨h1, h2⟩)]
  · rw [if_neg h1]
theorem numbered_in {a b : Int} (h : (1 ≤ a ∧ a ≤ 13) ∧ 0 ≤ b ∧ b ≤ 3) : verditerref06_numbered.f a b = some 0 := by
  unfold verditerref06_numbered.f
  simp [rwithin_is, h]
theorem numbered_out {a b : Int} (h : ¬ ((1 ≤ a ∧ a ≤ 13) ∧ 0 ≤ b ∧ b ≤ 3)) : verditerref06_numbered.f a b = some 1 := by
  unfold verditerref06_numbered.f
  simp only [rwithin_is, Option.bind_some, decide_eq_true_eq]
  by_cases h1 : 1 ≤ a ∧ a ≤ 13
  · rw [if_pos h1, if_neg (fun h2 => h ⟨h1, h2⟩)]
  · rw [if_neg h1]
/-- The greatest number, n at most. -/
def topM (w : Nat) : Nat → Nat
  | 0 => 0
  | n + 1 => if tblM w (n + 1) then n + 1 else topM w n
theorem topM_ge : ∀ w, w < 4 → ∀ i, i < 13 → tblM w (i + 1) = true → i + 1 ≤ topM w 13 := by decide
theorem most_l0 (w : Nat) (hw : w < 4) : ∀ n k, n ≤ 13 → n < k → weigh_Most.l0 k w n = some (((topM w n : Nat) : Int), 0)
  | 0, k + 1, _, _ => by simp [weigh_Most.l0, topM]
  | n + 1, k + 1, h, hk => by
    unfold weigh_Most.l0
    rw [if_pos (by omega), search_2 w (n + 1) hw (by omega) h]
    simp only [Option.bind_some]
    unfold topM
    cases ht : tblM w (n + 1) with
    | true => simp
    | false =>
      simp only [Bool.false_eq_true, if_false]
      rw [show wrap64 (((n + 1 : Nat) : Int) - 1) = (n : Int) by unfold wrap64; omega]
      exact most_l0 w hw n k (by omega) (by omega)
theorem rmost_l0 (w : Nat) (hw : w < 4) : ∀ n k, n ≤ 13 → n < k → verditerref06_Most.l0 k w n = some (((topM w n : Nat) : Int), 0)
  | 0, k + 1, _, _ => by simp [verditerref06_Most.l0, topM]
  | n + 1, k + 1, h, hk => by
    unfold verditerref06_Most.l0
    rw [if_pos (by omega), can_2 w (n + 1) hw (by omega) h]
    simp only [Option.bind_some]
    unfold topM
    cases ht : tblM w (n + 1) with
    | true => simp
    | false =>
      simp only [Bool.false_eq_true, if_false]
      rw [show wrap64 (((n + 1 : Nat) : Int) - 1) = (n : Int) by unfold wrap64; omega]
      exact rmost_l0 w hw n k (by omega) (by omega)
/-- What both answer to CanTell. -/
def canT (a b : Int) : Bool × Int := if (1 ≤ a ∧ a ≤ 13) ∧ 0 ≤ b ∧ b ≤ 3 then (tblM b.toNat a.toNat, 0) else (false, 1)
theorem canTell_is (a b : Int) : weigh_CanTell.f a b = some (canT a b) := by
  unfold weigh_CanTell.f canT
  by_cases h : (1 ≤ a ∧ a ≤ 13) ∧ 0 ≤ b ∧ b ≤ 3
  · rw [counted_in h, if_pos h]
    obtain ⟨n, rfl⟩ := Int.eq_ofNat_of_zero_le (show 0 ≤ a by omega)
    obtain ⟨w, rfl⟩ := Int.eq_ofNat_of_zero_le h.2.1
    simp only [Option.bind_some, if_true]
    rw [search_2 w n (by omega) (by omega) (by omega)]
    rfl
  · rw [counted_out h, if_neg h]; rfl
theorem rcanTell_is (a b : Int) : verditerref06_CanTell.f a b = some (canT a b) := by
  unfold verditerref06_CanTell.f canT
  by_cases h : (1 ≤ a ∧ a ≤ 13) ∧ 0 ≤ b ∧ b ≤ 3
  · rw [numbered_in h, if_pos h]
    obtain ⟨n, rfl⟩ := Int.eq_ofNat_of_zero_le (show 0 ≤ a by omega)
    obtain ⟨w, rfl⟩ := Int.eq_ofNat_of_zero_le h.2.1
    simp only [Option.bind_some, if_true]
    rw [can_2 w n (by omega) (by omega) (by omega)]
    rfl
  · rw [numbered_out h, if_neg h]; rfl
end Go.Proofs.Ytdbeochifofdoaa.X
end

section
namespace Go.Proofs.Ytdbeochifofdoaa.Pure
open Go.RowKit Go.Proofs.Ytdbeochifofdoaa.X Go.Proofs.YtdbeochifofdoaaW.PrintWords Go.Proofs.YtdbeochifofdoaaW.PrintLast
set_option linter.unusedSimpArgs false
set_option maxRecDepth 100000 in
theorem known200 : verditerlaw06_known.f 200 = some true := by decide +kernel
set_option maxRecDepth 100000 in
/-- The plans that are made tell. -/
theorem makeT : ∀ w, w < 4 → ∀ i, i < 13 → tblM w (i + 1) = true →
    verditerref06_Tells.f 200 ((i + 1 : Nat) : Int) ((List.range w).map (pairOf (searchR ((i + 1 : Nat) : Int) w).1)) = some (true, 0) := by decide +kernel
theorem searchR_2 (w n : Nat) (hw : w < 4) (h1 : 1 ≤ n) (h2 : n ≤ 13) : (searchR (n : Int) w).2 = tblM w n := by
  have h := search_2 w n hw h1 h2
  unfold weigh_search.f at h
  rw [if_pos ⟨⟨by omega, by omega⟩, by omega, by omega⟩, show ((w : Nat) : Int).toNat = w from rfl] at h
  exact congrArg Prod.snd (Option.some.inj h)
theorem WeighMakes : verditerlaw06_WeighMakes.Pure := by
  intro a b _ _
  refine ⟨201, ?_⟩
  unfold verditerlaw06_WeighMakes.f
  rw [rcanTell_is]
  by_cases h : (1 ≤ a ∧ a ≤ 13) ∧ 0 ≤ b ∧ b ≤ 3
  · obtain ⟨n, rfl⟩ := Int.eq_ofNat_of_zero_le (show 0 ≤ a by omega)
    obtain ⟨w, rfl⟩ := Int.eq_ofNat_of_zero_le h.2.1
    have hc : canT (n : Int) (w : Int) = (tblM w n, 0) := by unfold canT; rw [if_pos h]; rfl
    have h2 := searchR_2 w n (by omega) (by omega) (by omega)
    rw [hc]
    unfold weigh_Make.f
    rw [if_pos h, show ((w : Nat) : Int).toNat = w from rfl, h2]
    cases ht : tblM w n with
    | false =>
      simp [verditerlaw06_WeighMakes.j0, known200]
    | true =>
      have hm := makeT w (by omega) (n - 1) (by omega)
      rw [show n - 1 + 1 = n by omega] at hm
      have hm := hm ht
      simp [verditerlaw06_WeighMakes.j0, known200, hm]
  · have hc : canT a b = (false, 1) := by unfold canT; rw [if_neg h]
    rw [hc]
    unfold weigh_Make.f
    rw [if_neg h]
    simp [verditerlaw06_WeighMakes.j0, known200]
end Go.Proofs.Ytdbeochifofdoaa.Pure
end

section
-- PRINTED by print.py: the row of the law verditerlaw06_WeighMakes, out of its Pure (the session's) and the printed walk. Not trusted: Lean checks it.
namespace Go.Proofs.Ytdbeochifofdoaa.weighMakes
open Go.ChangeShapes Go.WideShapes Go.ChangeAt Go.RowKit
open Go.ChangeMaps (open_string shut_string)
set_option linter.unusedVariables false
theorem own : ownKnob Try.prog.godebug = none := by kernel_rfl
set_option maxRecDepth 100000 in
theorem lifted (os : Os) (started : os.Started) (H : Type) (enc : TypeId × Value → H) :
    ReturnsInHanded {} Try.checked os 10 .any (Rows.weighMakesSpec.pre6 enc Try.prog Try.f10 Rows.weighMakesRow.domain false) (Rows.weighMakesSpec.post enc Try.prog Try.f10 false true false false) := by
  refine returnsInHanded_of_change_sized (C := Try.checked) own started (by kernel_rfl) Try.func10
    (ChangeSpec.witness6 (enc := enc) (C := Try.checked) false ⟨#[], #[.int .i64 0, .int .i64 0], []⟩ 8 (by kernel_rfl) (by kernel_rfl) (by kernel_rfl) (by kernel_rfl)) ?_
  intro W base args ds gs before hval0 hW hcnd hsz0 _
  have hsz : (DataW.weightsEach Try.prog (Try.f10.params.toList ++ Rows.weighMakesSpec.plain.varTypes Try.prog) (ds ++ gs)).all (· ≤ reachBytes) = true := hsz0
  have hval : ∀ (j : Nat) t v, Try.f10.params[j]? = some t → args[j]? = some v → Value.okWide Try.prog W .any base t v := hval0
  have hW' := hW
  obtain ⟨p, q, hA0, hV, rfl, hfz, hnd⟩ := hW
  have hA : DataW.TrodAll enc Try.prog W 0 (fun _ => true) true Try.f10.params.toList args.toList ds p := hA0
  rw [Try.params10] at hA hval hsz
  obtain ⟨v0, vs0, d0, ds0, p0, q0, hargs, rfl, rfl, h0, r0⟩ := trodAll_cons hA
  obtain ⟨v1, vs1, d1, ds1, p1, q1, rfl, rfl, rfl, h1, r1⟩ := trodAll_cons r0
  obtain ⟨rfl, rfl, rfl⟩ := trodAll_nil r1
  obtain rfl : args = #[v0, v1] := by cases args; simp_all
  obtain ⟨rfl, rfl⟩ := trodVars_none hV
  obtain ⟨a0, rfl, rfl, rfl, w0⟩ := open_int Try.underlying3 (hval 0 3 v0 rfl rfl) h0
  obtain ⟨a1, rfl, rfl, rfl, w1⟩ := open_int Try.underlying3 (hval 1 3 v1 rfl rfl) h1
  clear hA0 hval0 hsz0 hsz
  refine (X.verditerlaw06_WeighMakes.walk Pure.WeighMakes a0 a1 W w0 w1).mono fun e W' ⟨he, bel⟩ => ?_
  subst he
  exact ⟨_, rfl, _, _, _, [], _, [], hW', trodAll_mk1 (shut_bool Try.underlying4 _), (trodAll_cons_mk (shut_int Try.underlying3 w0) (trodAll_cons_mk (shut_int Try.underlying3 w1) trodAll_mk0)), rfl, bel.frame _, fun h => by cases h⟩
theorem over : Rows.weighMakesRow.holds Try.pinned (OpenSpec.ofChange Rows.weighMakesSpec) :=
  OpenClaim.holds_of_wide 10 Try.f10 rfl rfl rfl rfl rfl rfl rfl ⟨rfl, rfl, rfl, rfl, rfl⟩ rfl rfl rfl rfl rfl (by kernel_rfl) Try.func10 (by kernel_rfl)
    (of_decide_eq_true (by kernel_rfl)) (by unfold Func.isWrapper; first | (rw [if_pos (by decide +kernel)]; kernel_rfl) | (rw [if_neg (by decide +kernel)]; exact ⟨rfl, rfl⟩))
    (fun os started H enc _ => lifted os started H enc)
theorem proved : Rows.WeighMakesSaid := over
end Go.Proofs.Ytdbeochifofdoaa.weighMakes
namespace Go.Proofs.Ytdbeochifofdoaa
/-- The row, under a short name, for the claim. -/
theorem weighMakes_holds : Rows.WeighMakesSaid := weighMakes.proved
end Go.Proofs.Ytdbeochifofdoaa
end
