/- The law WeighFromMarks of the given program: the plan with given marks.
Its conditions: none beyond the statement's own. Part 5 of 6 of the proof. -/
import Derived.Handy
import Derived.WalkSpells
import Derived.Deep.QuietTactic
import Derived.Test.YtdbeochifofdoaaKI3
section
-- Written by a program of this session (wip/hook.py, which runs the kit's print.py with contracts proved by hand). Not trusted: Lean checks it.
namespace Go.Proofs.Ytdbeochifofdoaa.X
open Go.RowKit Go.Proofs.YtdbeochifofdoaaW.PrintWords Go.Proofs.YtdbeochifofdoaaW.PrintLast Go.Proofs.YtdbeochifofdoaaW.PrintMore
attribute [local go_sem] max2_int min2_int max_two min_two max_three min_three max_four min_four   -- for this text's walks alone
set_option linter.unusedVariables false
set_option linter.unusedSimpArgs false

/-! ### verditerref06_tells: function 62 -/
mutual
def verditerref06_tells.l0 : Nat → Int → List (S53) → Int → Option (Bool)
  | 0, _, _, _ => none
  | k + 1, x0, x1, x5 => if x5 < x0 then ((verditerref06_mark.f k x1 x5).bind fun t219 => ((verditerref06_isBlank.f k t219).bind fun t222 => (if t222 = true then (some false) else (verditerref06_tells.l1 k x0 x1 x5 t219 0)))) else (some true)
def verditerref06_tells.l1 : Nat → Int → List (S53) → Int → List Int → Int → Option (Bool)
  | 0, _, _, _, _, _ => none
  | k + 1, x0, x1, x5, x6, x7 => if x7 < x5 then ((verditerref06_mark.f k x1 x7).bind fun t223 => ((verditerref06_SameInts.f k x6 t223).bind fun t226 => (if t226 = true then (some false) else ((verditerref06_mark.f k x1 x7).bind fun t227 => ((verditerref06_times.f k t227 (-1)).bind fun t230 => ((verditerref06_SameInts.f k x6 t230).bind fun t233 => (if t233 = true then (some false) else (verditerref06_tells.l1 k x0 x1 x5 x6 (wrap64 (x7 + 1)))))))))) else (verditerref06_tells.l0 k x0 x1 (wrap64 (x5 + 1)))
end
def verditerref06_tells.f (k : Nat) (a0 : Int) (l1 : List (S53)) : Option (Bool) := verditerref06_tells.l0 k a0 l1 0
theorem verditerref06_tells.mono_l : ∀ k, (∀ y0 y1 y2, LeO (verditerref06_tells.l0 k y0 y1 y2) (verditerref06_tells.l0 (k + 1) y0 y1 y2)) ∧ (∀ y0 y1 y2 y3 y4, LeO (verditerref06_tells.l1 k y0 y1 y2 y3 y4) (verditerref06_tells.l1 (k + 1) y0 y1 y2 y3 y4))
  | 0 => ⟨fun _ _ _ r h => by simp [verditerref06_tells.l0] at h, fun _ _ _ _ _ r h => by simp [verditerref06_tells.l1] at h⟩
  | k + 1 => by
    obtain ⟨ih0, ih1⟩ := verditerref06_tells.mono_l k
    refine ⟨?_, ?_⟩
    · intro y0 y1 y2
      unfold verditerref06_tells.l0
      repeat' first
      | (with_reducible exact ih0 _ _ _)
      | (with_reducible exact ih1 _ _ _ _ _)
      | (with_reducible exact verditerref06_SameInts.mono _ _ _)
      | (with_reducible exact verditerref06_isBlank.mono _ _)
      | (with_reducible exact verditerref06_mark.mono _ _ _)
      | (with_reducible exact verditerref06_times.mono _ _ _)
      | (with_reducible exact LeO.refl _)
      | (with_reducible exact LeO.none _)
      | (with_reducible refine LeO.ite ?_ ?_)
      | (with_reducible refine LeO.bind ?_ (fun _ => ?_))
      | exact ih0 _ _ _
      | exact ih1 _ _ _ _ _
      | exact verditerref06_SameInts.mono _ _ _
      | exact verditerref06_isBlank.mono _ _
      | exact verditerref06_mark.mono _ _ _
      | exact verditerref06_times.mono _ _ _
      | exact LeO.none _
      | refine LeO.ite ?_ ?_
      | refine LeO.bind ?_ (fun _ => ?_)
    · intro y0 y1 y2 y3 y4
      unfold verditerref06_tells.l1
      repeat' first
      | (with_reducible exact ih0 _ _ _)
      | (with_reducible exact ih1 _ _ _ _ _)
      | (with_reducible exact verditerref06_SameInts.mono _ _ _)
      | (with_reducible exact verditerref06_isBlank.mono _ _)
      | (with_reducible exact verditerref06_mark.mono _ _ _)
      | (with_reducible exact verditerref06_times.mono _ _ _)
      | (with_reducible exact LeO.refl _)
      | (with_reducible exact LeO.none _)
      | (with_reducible refine LeO.ite ?_ ?_)
      | (with_reducible refine LeO.bind ?_ (fun _ => ?_))
      | exact ih0 _ _ _
      | exact ih1 _ _ _ _ _
      | exact verditerref06_SameInts.mono _ _ _
      | exact verditerref06_isBlank.mono _ _
      | exact verditerref06_mark.mono _ _ _
      | exact verditerref06_times.mono _ _ _
      | exact LeO.none _
      | refine LeO.ite ?_ ?_
      | refine LeO.bind ?_ (fun _ => ?_)
theorem verditerref06_tells.mono : ∀ a0 a1 k, LeO (verditerref06_tells.f k a0 a1) (verditerref06_tells.f (k + 1) a0 a1) := by
  intro a0 a1 k
  obtain ⟨ih0, ih1⟩ := verditerref06_tells.mono_l k
  unfold verditerref06_tells.f
  repeat' first
      | (with_reducible exact ih0 _ _ _)
      | (with_reducible exact ih1 _ _ _ _ _)
      | (with_reducible exact verditerref06_SameInts.mono _ _ _)
      | (with_reducible exact verditerref06_isBlank.mono _ _)
      | (with_reducible exact verditerref06_mark.mono _ _ _)
      | (with_reducible exact verditerref06_times.mono _ _ _)
      | (with_reducible exact LeO.refl _)
      | (with_reducible exact LeO.none _)
      | (with_reducible refine LeO.ite ?_ ?_)
      | (with_reducible refine LeO.bind ?_ (fun _ => ?_))
      | exact ih0 _ _ _
      | exact ih1 _ _ _ _ _
      | exact verditerref06_SameInts.mono _ _ _
      | exact verditerref06_isBlank.mono _ _
      | exact verditerref06_mark.mono _ _ _
      | exact verditerref06_times.mono _ _ _
      | exact LeO.none _
      | refine LeO.ite ?_ ?_
      | refine LeO.bind ?_ (fun _ => ?_)
set_option maxHeartbeats 8000000 in
set_option maxRecDepth 100000 in
theorem verditerref06_tells.calls (k : Nat) (a0 : Int) (A1 : Option Addr) (c1 : Nat) (l1 : List (S53)) (r : Bool) (w : World) (hr1 : Kd.C k53 w A1 l1.length l1) (hc1 : l1.length ≤ c1) (h : verditerref06_tells.f k a0 l1 = some r) :
    Calls Try.prog 62 #[.int .i64 a0, .slice A1 l1.length c1] w fun e w' => e = .returned (.bool r) ∧ Below w.heap.size w w' := by
  have HR1 := Aside0.mk hr1
  have HC1 := Aside0.mk hc1
  clear hr1 hc1
  have HB := Aside0.mk (Below.refl w.heap.size w)
  have H : (verditerref06_tells.l0 k a0 l1 0) = some r := h
  clear h
  have H' := Aside0.mk H
  clear H
  go_enter Try.func62, Try.ntmps62
  go_wp2
  go_loopg [5] k (fun kq v5 w' => ∃ (x5_1 : Int), v5 = .int .i64 x5_1 ∧ Aside0 (verditerref06_tells.l0 kq a0 l1 x5_1 = some r) ∧ Aside0 (kq ≤ k) ∧ Aside0 (Below w.heap.size w w'))
  case atStart => exact ⟨(0), (by first | rfl | (simp; done) | (simp [*]; done)), H', ⟨Nat.le_refl _⟩, ⟨by repeat (first | (with_reducible first | exact HB.out | apply below_alloc | apply pw_below_drewN | apply below_drew1) | exact HB.out)⟩⟩
  case round =>
    clear H'
    try clear c1
    try clear p2
    obtain ⟨x5_1, rfl, HA, HK1, HB⟩ := hrel
    cases gk with
    | zero => exact absurd HA.out (by simp [verditerref06_tells.l0])
    | succ k1 =>
      have H := HA.out
      clear HA
      simp only [verditerref06_tells.l0] at H
      by_cases c3 : x5_1 < a0
      · rw [if_pos c3] at H
        have c3b0 : decide (x5_1 < a0) = true := decide_eq_true c3
        clear c3
        replace H := Option.bind_eq_some_iff.mp H
        obtain ⟨t219, A40, H⟩ := H
        replace H : ((verditerref06_isBlank.f k1 t219).bind fun t222 => (if t222 = true then (some false) else (verditerref06_tells.l1 k1 a0 l1 x5_1 t219 0))) = some r := H
        have A4 := Aside0.mk A40
        clear A40
        replace H := Option.bind_eq_some_iff.mp H
        obtain ⟨t222, A50, H⟩ := H
        replace H : (if t222 = true then (some false) else (verditerref06_tells.l1 k1 a0 l1 x5_1 t219 0)) = some r := H
        have A5 := Aside0.mk A50
        clear A50
        by_cases c6 : t222 = true
        · subst c6
          have H1 : (some false) = some r := by rw [if_pos rfl] at H; exact H
          clear H
          have H := H1
          clear H1
          obtain rfl := Option.some.inj H
          go_wp2_with (first | ((with_reducible refine gate_callee (f := 80) rfl ?_); refine goesL_ (some 15) rfl rfl Try.func80 (by kernel_rfl) rfl #[.slice A1 l1.length c1, .int .i64 x5_1] rfl (by (try simp only [List.map_toArray, List.map_cons, List.map_nil]); first | done | rfl | (simp only [List.length_drop, List.length_take]; rfl)) ?_; (with_reducible refine (verditerref06_mark.calls k1 _ _ l1 x5_1 t219 _ ?side1 ?side2 A4.out).mono ?_); (case side1 => repeat (first | exact (Kd.C_below HR1.out HB.out) | (with_reducible refine Kd.C_alloc ?_ _) | (with_reducible refine Kd.C_drewN ?_ _) | (with_reducible refine Kd.C_drew ?_))); (case side2 => exact HC1.out); rintro e w7 ⟨v220, rfl, ho0, hb⟩; refine ⟨_, rfl, ?_⟩; have n0_ := Aside0.mk (Kd.R_lower ho0 (below_size (by repeat (first | (with_reducible first | exact HB.out | apply below_alloc | apply pw_below_drewN | apply below_drew1) | exact HB.out)))); have n1_ := Aside0.mk (below_step (by repeat (first | (with_reducible first | exact HB.out | apply below_alloc | apply pw_below_drewN | apply below_drew1) | exact HB.out)) hb); clear HB; have HO221 := n0_; have HB := n1_; clear n0_ n1_; (try clear hb); (try clear hb2); (try clear hk); (try clear hi); (try clear ho0); obtain ⟨Ao8, co8, eo8⟩ := Kd.R_slice HO221.out; subst eo8) | ((with_reducible refine gate_callee (f := 81) rfl ?_); refine goesL_ (some 17) rfl rfl Try.func81 (by kernel_rfl) rfl #[.slice Ao8 t219.length co8] rfl (by (try simp only [List.map_toArray, List.map_cons, List.map_nil]); first | done | rfl | (simp only [List.length_drop, List.length_take]; rfl)) ?_; (with_reducible refine (verditerref06_isBlank.calls k1 _ _ t219 true _ ?side1 ?side2 A5.out).mono ?_); (case side1 => repeat (first | exact (Kd.R_reads' HO221.out).2.2 | (with_reducible refine Kd.C_alloc ?_ _) | (with_reducible refine Kd.C_drewN ?_ _) | (with_reducible refine Kd.C_drew ?_))); (case side2 => exact (Kd.R_reads' HO221.out).2.1); rintro e w' ⟨rfl, ⟨nd, rfl⟩⟩; refine ⟨_, rfl, ?_⟩))
          go_ret
          exact ⟨by first | rfl | (simp [errW_none, errW_some] <;> rfl) | (simp [*, errW_none, errW_some] <;> rfl), by repeat (first | (with_reducible first | exact HB.out | apply below_alloc | apply pw_below_drewN | apply below_drew1) | exact HB.out)⟩
        · replace c6 := Bool.eq_false_iff.mpr c6
          subst c6
          have H1 : (verditerref06_tells.l1 k1 a0 l1 x5_1 t219 0) = some r := by rw [if_neg (show ¬ (false = true) by decide)] at H; exact H
          clear H
          have H := H1
          clear H1
          have H' := Aside0.mk H
          clear H
          go_wp2_with (first | ((with_reducible refine gate_callee (f := 80) rfl ?_); refine goesL_ (some 15) rfl rfl Try.func80 (by kernel_rfl) rfl #[.slice A1 l1.length c1, .int .i64 x5_1] rfl (by (try simp only [List.map_toArray, List.map_cons, List.map_nil]); first | done | rfl | (simp only [List.length_drop, List.length_take]; rfl)) ?_; (with_reducible refine (verditerref06_mark.calls k1 _ _ l1 x5_1 t219 _ ?side1 ?side2 A4.out).mono ?_); (case side1 => repeat (first | exact (Kd.C_below HR1.out HB.out) | (with_reducible refine Kd.C_alloc ?_ _) | (with_reducible refine Kd.C_drewN ?_ _) | (with_reducible refine Kd.C_drew ?_))); (case side2 => exact HC1.out); rintro e w9 ⟨v220, rfl, ho0, hb⟩; refine ⟨_, rfl, ?_⟩; have n0_ := Aside0.mk (Kd.R_lower ho0 (below_size (by repeat (first | (with_reducible first | exact HB.out | apply below_alloc | apply pw_below_drewN | apply below_drew1) | exact HB.out)))); have n1_ := Aside0.mk (below_step (by repeat (first | (with_reducible first | exact HB.out | apply below_alloc | apply pw_below_drewN | apply below_drew1) | exact HB.out)) hb); clear HB; have HO221 := n0_; have HB := n1_; clear n0_ n1_; (try clear hb); (try clear hb2); (try clear hk); (try clear hi); (try clear ho0); obtain ⟨Ao10, co10, eo10⟩ := Kd.R_slice HO221.out; subst eo10) | ((with_reducible refine gate_callee (f := 81) rfl ?_); refine goesL_ (some 17) rfl rfl Try.func81 (by kernel_rfl) rfl #[.slice Ao10 t219.length co10] rfl (by (try simp only [List.map_toArray, List.map_cons, List.map_nil]); first | done | rfl | (simp only [List.length_drop, List.length_take]; rfl)) ?_; (with_reducible refine (verditerref06_isBlank.calls k1 _ _ t219 false _ ?side1 ?side2 A5.out).mono ?_); (case side1 => repeat (first | exact (Kd.R_reads' HO221.out).2.2 | (with_reducible refine Kd.C_alloc ?_ _) | (with_reducible refine Kd.C_drewN ?_ _) | (with_reducible refine Kd.C_drew ?_))); (case side2 => exact (Kd.R_reads' HO221.out).2.1); rintro e w' ⟨rfl, ⟨nd, rfl⟩⟩; refine ⟨_, rfl, ?_⟩))
          go_loopg [7] k1 (fun kq v7 w' => ∃ (x7_2 : Int), v7 = .int .i64 x7_2 ∧ Aside0 (verditerref06_tells.l1 kq a0 l1 x5_1 t219 x7_2 = some r) ∧ Aside0 (kq ≤ k1) ∧ Aside0 (Kd.R (Kd.int .i64) 3 w' w.heap.size (fun _ => True) (.slice Ao10 t219.length co10) t219) ∧ Aside0 (Below w.heap.size w w'))
          case atStart => exact ⟨(0), (by first | rfl | (simp; done) | (simp [*]; done)), H', ⟨Nat.le_refl _⟩, ⟨by (with_reducible repeat (first | apply Kd.R_alloc | apply Kd.R_drewN | apply Kd.R_drew)); exact HO221.out⟩, ⟨by repeat (first | (with_reducible first | exact HB.out | apply below_alloc | apply pw_below_drewN | apply below_drew1) | exact HB.out)⟩⟩
          case round =>
            clear H'
            try clear c1
            try clear p2
            try clear c3
            try clear c3b0
            try clear c6
            try clear c8
            try clear p2
            obtain ⟨x7_2, rfl, HA, HK2, HO_6, HB⟩ := hrel
            cases gk with
            | zero => exact absurd HA.out (by simp [verditerref06_tells.l1])
            | succ k2 =>
              have H := HA.out
              clear HA
              simp only [verditerref06_tells.l1] at H
              by_cases c11 : x7_2 < x5_1
              · rw [if_pos c11] at H
                have c11b0 : decide (x7_2 < x5_1) = true := decide_eq_true c11
                clear c11
                replace H := Option.bind_eq_some_iff.mp H
                obtain ⟨t223, A120, H⟩ := H
                replace H : ((verditerref06_SameInts.f k2 t219 t223).bind fun t226 => (if t226 = true then (some false) else ((verditerref06_mark.f k2 l1 x7_2).bind fun t227 => ((verditerref06_times.f k2 t227 (-1)).bind fun t230 => ((verditerref06_SameInts.f k2 t219 t230).bind fun t233 => (if t233 = true then (some false) else (verditerref06_tells.l1 k2 a0 l1 x5_1 t219 (wrap64 (x7_2 + 1))))))))) = some r := H
                have A12 := Aside0.mk A120
                clear A120
                replace H := Option.bind_eq_some_iff.mp H
                obtain ⟨t226, A130, H⟩ := H
                replace H : (if t226 = true then (some false) else ((verditerref06_mark.f k2 l1 x7_2).bind fun t227 => ((verditerref06_times.f k2 t227 (-1)).bind fun t230 => ((verditerref06_SameInts.f k2 t219 t230).bind fun t233 => (if t233 = true then (some false) else (verditerref06_tells.l1 k2 a0 l1 x5_1 t219 (wrap64 (x7_2 + 1)))))))) = some r := H
                have A13 := Aside0.mk A130
                clear A130
                by_cases c14 : t226 = true
                · subst c14
                  have H1 : (some false) = some r := by rw [if_pos rfl] at H; exact H
                  clear H
                  have H := H1
                  clear H1
                  obtain rfl := Option.some.inj H
                  go_wp2_with (first | ((with_reducible refine gate_callee (f := 80) rfl ?_); refine goesL_ (some 26) rfl rfl Try.func80 (by kernel_rfl) rfl #[.slice A1 l1.length c1, .int .i64 x7_2] rfl (by (try simp only [List.map_toArray, List.map_cons, List.map_nil]); first | done | rfl | (simp only [List.length_drop, List.length_take]; rfl)) ?_; (with_reducible refine (verditerref06_mark.calls k2 _ _ l1 x7_2 t223 _ ?side1 ?side2 A12.out).mono ?_); (case side1 => repeat (first | exact (Kd.C_below HR1.out HB.out) | (with_reducible refine Kd.C_alloc ?_ _) | (with_reducible refine Kd.C_drewN ?_ _) | (with_reducible refine Kd.C_drew ?_))); (case side2 => exact HC1.out); rintro e w15 ⟨v224, rfl, ho0, hb⟩; refine ⟨_, rfl, ?_⟩; have n0_ := Aside0.mk (Kd.R_elder' (by (with_reducible repeat (first | apply Kd.R_alloc | apply Kd.R_drewN | apply Kd.R_drew)); exact HO_6.out) (Kd.R_base ho0) hb); have n1_ := Aside0.mk (Kd.R_lower (Kd.R_new' ho0 (Kd.R_lt (by (with_reducible repeat (first | apply Kd.R_alloc | apply Kd.R_drewN | apply Kd.R_drew)); exact HO_6.out))) (below_size (by repeat (first | (with_reducible first | exact HB.out | apply below_alloc | apply pw_below_drewN | apply below_drew1) | exact HB.out)))); have n2_ := Aside0.mk (below_step (by repeat (first | (with_reducible first | exact HB.out | apply below_alloc | apply pw_below_drewN | apply below_drew1) | exact HB.out)) hb); clear HO_6; clear HB; have HO_6 := n0_; have HO225 := n1_; have HB := n2_; clear n0_ n1_ n2_; (try clear hb); (try clear hb2); (try clear hk); (try clear hi); (try clear ho0); obtain ⟨Ao16, co16, eo16⟩ := Kd.R_slice HO225.out; subst eo16) | ((with_reducible refine gate_callee (f := 60) rfl ?_); refine goesL_ (some 27) rfl rfl Try.func60 (by kernel_rfl) rfl #[.slice Ao10 t219.length co10, .slice Ao16 t223.length co16] rfl (by (try simp only [List.map_toArray, List.map_cons, List.map_nil]); first | done | rfl | (simp only [List.length_drop, List.length_take]; rfl)) ?_; (with_reducible refine (verditerref06_SameInts.calls k2 _ _ t219 _ _ t223 true _ ?side1 ?side2 ?side3 ?side4 A13.out).mono ?_); (case side1 => repeat (first | exact (Kd.R_reads' HO_6.out).2.2 | (with_reducible refine Kd.C_alloc ?_ _) | (with_reducible refine Kd.C_drewN ?_ _) | (with_reducible refine Kd.C_drew ?_))); (case side2 => exact (Kd.R_reads' HO_6.out).2.1); (case side3 => repeat (first | exact (Kd.R_reads' HO225.out).2.2 | (with_reducible refine Kd.C_alloc ?_ _) | (with_reducible refine Kd.C_drewN ?_ _) | (with_reducible refine Kd.C_drew ?_))); (case side4 => exact (Kd.R_reads' HO225.out).2.1); rintro e w' ⟨rfl, ⟨nd, rfl⟩⟩; refine ⟨_, rfl, ?_⟩))
                  go_ret
                  exact ⟨by first | rfl | (simp [errW_none, errW_some] <;> rfl) | (simp [*, errW_none, errW_some] <;> rfl), by repeat (first | (with_reducible first | exact HB.out | apply below_alloc | apply pw_below_drewN | apply below_drew1) | exact HB.out)⟩
                · replace c14 := Bool.eq_false_iff.mpr c14
                  subst c14
                  have H1 : ((verditerref06_mark.f k2 l1 x7_2).bind fun t227 => ((verditerref06_times.f k2 t227 (-1)).bind fun t230 => ((verditerref06_SameInts.f k2 t219 t230).bind fun t233 => (if t233 = true then (some false) else (verditerref06_tells.l1 k2 a0 l1 x5_1 t219 (wrap64 (x7_2 + 1))))))) = some r := by rw [if_neg (show ¬ (false = true) by decide)] at H; exact H
                  clear H
                  have H := H1
                  clear H1
                  replace H := Option.bind_eq_some_iff.mp H
                  obtain ⟨t227, A170, H⟩ := H
                  replace H : ((verditerref06_times.f k2 t227 (-1)).bind fun t230 => ((verditerref06_SameInts.f k2 t219 t230).bind fun t233 => (if t233 = true then (some false) else (verditerref06_tells.l1 k2 a0 l1 x5_1 t219 (wrap64 (x7_2 + 1)))))) = some r := H
                  have A17 := Aside0.mk A170
                  clear A170
                  replace H := Option.bind_eq_some_iff.mp H
                  obtain ⟨t230, A180, H⟩ := H
                  replace H : ((verditerref06_SameInts.f k2 t219 t230).bind fun t233 => (if t233 = true then (some false) else (verditerref06_tells.l1 k2 a0 l1 x5_1 t219 (wrap64 (x7_2 + 1))))) = some r := H
                  have A18 := Aside0.mk A180
                  clear A180
                  replace H := Option.bind_eq_some_iff.mp H
                  obtain ⟨t233, A190, H⟩ := H
                  replace H : (if t233 = true then (some false) else (verditerref06_tells.l1 k2 a0 l1 x5_1 t219 (wrap64 (x7_2 + 1)))) = some r := H
                  have A19 := Aside0.mk A190
                  clear A190
                  by_cases c20 : t233 = true
                  · subst c20
                    have H1 : (some false) = some r := by rw [if_pos rfl] at H; exact H
                    clear H
                    have H := H1
                    clear H1
                    obtain rfl := Option.some.inj H
                    go_wp2_with (first | ((with_reducible refine gate_callee (f := 80) rfl ?_); refine goesL_ (some 26) rfl rfl Try.func80 (by kernel_rfl) rfl #[.slice A1 l1.length c1, .int .i64 x7_2] rfl (by (try simp only [List.map_toArray, List.map_cons, List.map_nil]); first | done | rfl | (simp only [List.length_drop, List.length_take]; rfl)) ?_; (with_reducible refine (verditerref06_mark.calls k2 _ _ l1 x7_2 t223 _ ?side1 ?side2 A12.out).mono ?_); (case side1 => repeat (first | exact (Kd.C_below HR1.out HB.out) | (with_reducible refine Kd.C_alloc ?_ _) | (with_reducible refine Kd.C_drewN ?_ _) | (with_reducible refine Kd.C_drew ?_))); (case side2 => exact HC1.out); rintro e w21 ⟨v224, rfl, ho0, hb⟩; refine ⟨_, rfl, ?_⟩; have n0_ := Aside0.mk (Kd.R_elder' (by (with_reducible repeat (first | apply Kd.R_alloc | apply Kd.R_drewN | apply Kd.R_drew)); exact HO_6.out) (Kd.R_base ho0) hb); have n1_ := Aside0.mk (Kd.R_lower (Kd.R_new' ho0 (Kd.R_lt (by (with_reducible repeat (first | apply Kd.R_alloc | apply Kd.R_drewN | apply Kd.R_drew)); exact HO_6.out))) (below_size (by repeat (first | (with_reducible first | exact HB.out | apply below_alloc | apply pw_below_drewN | apply below_drew1) | exact HB.out)))); have n2_ := Aside0.mk (below_step (by repeat (first | (with_reducible first | exact HB.out | apply below_alloc | apply pw_below_drewN | apply below_drew1) | exact HB.out)) hb); clear HO_6; clear HB; have HO_6 := n0_; have HO225 := n1_; have HB := n2_; clear n0_ n1_ n2_; (try clear hb); (try clear hb2); (try clear hk); (try clear hi); (try clear ho0); obtain ⟨Ao22, co22, eo22⟩ := Kd.R_slice HO225.out; subst eo22) | ((with_reducible refine gate_callee (f := 60) rfl ?_); refine goesL_ (some 27) rfl rfl Try.func60 (by kernel_rfl) rfl #[.slice Ao10 t219.length co10, .slice Ao22 t223.length co22] rfl (by (try simp only [List.map_toArray, List.map_cons, List.map_nil]); first | done | rfl | (simp only [List.length_drop, List.length_take]; rfl)) ?_; (with_reducible refine (verditerref06_SameInts.calls k2 _ _ t219 _ _ t223 false _ ?side1 ?side2 ?side3 ?side4 A13.out).mono ?_); (case side1 => repeat (first | exact (Kd.R_reads' HO_6.out).2.2 | (with_reducible refine Kd.C_alloc ?_ _) | (with_reducible refine Kd.C_drewN ?_ _) | (with_reducible refine Kd.C_drew ?_))); (case side2 => exact (Kd.R_reads' HO_6.out).2.1); (case side3 => repeat (first | exact (Kd.R_reads' HO225.out).2.2 | (with_reducible refine Kd.C_alloc ?_ _) | (with_reducible refine Kd.C_drewN ?_ _) | (with_reducible refine Kd.C_drew ?_))); (case side4 => exact (Kd.R_reads' HO225.out).2.1); rintro e w' ⟨rfl, ⟨nd, rfl⟩⟩; refine ⟨_, rfl, ?_⟩) | (go_at_call 80; (with_reducible refine (verditerref06_mark.calls k2 _ _ l1 x7_2 t227 _ ?side1 ?side2 A17.out).mono ?_); (case side1 => repeat (first | exact (Kd.C_below HR1.out (by repeat (first | (with_reducible first | exact HB.out | apply below_alloc | apply pw_below_drewN | apply below_drew1) | exact HB.out))) | (with_reducible refine Kd.C_alloc ?_ _) | (with_reducible refine Kd.C_drewN ?_ _) | (with_reducible refine Kd.C_drew ?_))); (case side2 => exact HC1.out); rintro e w23 ⟨v228, rfl, ho0, hb⟩; have n0_ := Aside0.mk (Kd.R_elder' (by (with_reducible repeat (first | apply Kd.R_alloc | apply Kd.R_drewN | apply Kd.R_drew)); exact HO_6.out) (Kd.R_base ho0) hb); have n1_ := Aside0.mk (Kd.R_elder' (by (with_reducible repeat (first | apply Kd.R_alloc | apply Kd.R_drewN | apply Kd.R_drew)); exact HO225.out) (Kd.R_base ho0) hb); have n2_ := Aside0.mk (Kd.R_lower (Kd.R_new' (Kd.R_new' ho0 (Kd.R_lt (by (with_reducible repeat (first | apply Kd.R_alloc | apply Kd.R_drewN | apply Kd.R_drew)); exact HO_6.out))) (Kd.R_lt (by (with_reducible repeat (first | apply Kd.R_alloc | apply Kd.R_drewN | apply Kd.R_drew)); exact HO225.out))) (below_size (by repeat (first | (with_reducible first | exact HB.out | apply below_alloc | apply pw_below_drewN | apply below_drew1) | exact HB.out)))); have n3_ := Aside0.mk (below_step (by repeat (first | (with_reducible first | exact HB.out | apply below_alloc | apply pw_below_drewN | apply below_drew1) | exact HB.out)) hb); clear HO_6; clear HO225; clear HB; have HO_6 := n0_; have HO225 := n1_; have HO229 := n2_; have HB := n3_; clear n0_ n1_ n2_ n3_; (try clear hb); (try clear hb2); (try clear hk); (try clear hi); (try clear ho0); obtain ⟨Ao24, co24, eo24⟩ := Kd.R_slice HO229.out; subst eo24) | (go_at_call 79; (with_reducible refine (verditerref06_times.calls k2 _ _ t227 (-1) t230 _ ?side1 ?side2 A18.out).mono ?_); (case side1 => repeat (first | exact (Kd.R_reads' HO229.out).2.2 | (with_reducible refine Kd.C_alloc ?_ _) | (with_reducible refine Kd.C_drewN ?_ _) | (with_reducible refine Kd.C_drew ?_))); (case side2 => exact (Kd.R_reads' HO229.out).2.1); rintro e w25 ⟨v231, rfl, ho0, hb⟩; have n0_ := Aside0.mk (Kd.R_elder' (by (with_reducible repeat (first | apply Kd.R_alloc | apply Kd.R_drewN | apply Kd.R_drew)); exact HO_6.out) (Kd.R_base ho0) hb); have n1_ := Aside0.mk (Kd.R_elder' (by (with_reducible repeat (first | apply Kd.R_alloc | apply Kd.R_drewN | apply Kd.R_drew)); exact HO225.out) (Kd.R_base ho0) hb); have n2_ := Aside0.mk (Kd.R_elder' (by (with_reducible repeat (first | apply Kd.R_alloc | apply Kd.R_drewN | apply Kd.R_drew)); exact HO229.out) (Kd.R_base ho0) hb); have n3_ := Aside0.mk (Kd.R_lower (Kd.R_new' (Kd.R_new' (Kd.R_new' ho0 (Kd.R_lt (by (with_reducible repeat (first | apply Kd.R_alloc | apply Kd.R_drewN | apply Kd.R_drew)); exact HO_6.out))) (Kd.R_lt (by (with_reducible repeat (first | apply Kd.R_alloc | apply Kd.R_drewN | apply Kd.R_drew)); exact HO225.out))) (Kd.R_lt (by (with_reducible repeat (first | apply Kd.R_alloc | apply Kd.R_drewN | apply Kd.R_drew)); exact HO229.out))) (below_size (by repeat (first | (with_reducible first | exact HB.out | apply below_alloc | apply pw_below_drewN | apply below_drew1) | exact HB.out)))); have n4_ := Aside0.mk (below_step (by repeat (first | (with_reducible first | exact HB.out | apply below_alloc | apply pw_below_drewN | apply below_drew1) | exact HB.out)) hb); clear HO_6; clear HO225; clear HO229; clear HB; have HO_6 := n0_; have HO225 := n1_; have HO229 := n2_; have HO232 := n3_; have HB := n4_; clear n0_ n1_ n2_ n3_ n4_; (try clear hb); (try clear hb2); (try clear hk); (try clear hi); (try clear ho0); obtain ⟨Ao26, co26, eo26⟩ := Kd.R_slice HO232.out; subst eo26) | (go_at_call 60; (with_reducible refine (verditerref06_SameInts.calls k2 _ _ t219 _ _ t230 true _ ?side1 ?side2 ?side3 ?side4 A19.out).mono ?_); (case side1 => repeat (first | exact (Kd.R_reads' HO_6.out).2.2 | (with_reducible refine Kd.C_alloc ?_ _) | (with_reducible refine Kd.C_drewN ?_ _) | (with_reducible refine Kd.C_drew ?_))); (case side2 => exact (Kd.R_reads' HO_6.out).2.1); (case side3 => repeat (first | exact (Kd.R_reads' HO232.out).2.2 | (with_reducible refine Kd.C_alloc ?_ _) | (with_reducible refine Kd.C_drewN ?_ _) | (with_reducible refine Kd.C_drew ?_))); (case side4 => exact (Kd.R_reads' HO232.out).2.1); rintro e w' ⟨rfl, ⟨nd, rfl⟩⟩))
                    go_ret
                    exact ⟨by first | rfl | (simp [errW_none, errW_some] <;> rfl) | (simp [*, errW_none, errW_some] <;> rfl), by repeat (first | (with_reducible first | exact HB.out | apply below_alloc | apply pw_below_drewN | apply below_drew1) | exact HB.out)⟩
                  · replace c20 := Bool.eq_false_iff.mpr c20
                    subst c20
                    have H1 : (verditerref06_tells.l1 k2 a0 l1 x5_1 t219 (wrap64 (x7_2 + 1))) = some r := by rw [if_neg (show ¬ (false = true) by decide)] at H; exact H
                    clear H
                    have H := H1
                    clear H1
                    have H' := Aside0.mk H
                    clear H
                    go_wp2_with (first | ((with_reducible refine gate_callee (f := 80) rfl ?_); refine goesL_ (some 26) rfl rfl Try.func80 (by kernel_rfl) rfl #[.slice A1 l1.length c1, .int .i64 x7_2] rfl (by (try simp only [List.map_toArray, List.map_cons, List.map_nil]); first | done | rfl | (simp only [List.length_drop, List.length_take]; rfl)) ?_; (with_reducible refine (verditerref06_mark.calls k2 _ _ l1 x7_2 t223 _ ?side1 ?side2 A12.out).mono ?_); (case side1 => repeat (first | exact (Kd.C_below HR1.out HB.out) | (with_reducible refine Kd.C_alloc ?_ _) | (with_reducible refine Kd.C_drewN ?_ _) | (with_reducible refine Kd.C_drew ?_))); (case side2 => exact HC1.out); rintro e w27 ⟨v224, rfl, ho0, hb⟩; refine ⟨_, rfl, ?_⟩; have n0_ := Aside0.mk (Kd.R_elder' (by (with_reducible repeat (first | apply Kd.R_alloc | apply Kd.R_drewN | apply Kd.R_drew)); exact HO_6.out) (Kd.R_base ho0) hb); have n1_ := Aside0.mk (Kd.R_lower (Kd.R_new' ho0 (Kd.R_lt (by (with_reducible repeat (first | apply Kd.R_alloc | apply Kd.R_drewN | apply Kd.R_drew)); exact HO_6.out))) (below_size (by repeat (first | (with_reducible first | exact HB.out | apply below_alloc | apply pw_below_drewN | apply below_drew1) | exact HB.out)))); have n2_ := Aside0.mk (below_step (by repeat (first | (with_reducible first | exact HB.out | apply below_alloc | apply pw_below_drewN | apply below_drew1) | exact HB.out)) hb); clear HO_6; clear HB; have HO_6 := n0_; have HO225 := n1_; have HB := n2_; clear n0_ n1_ n2_; (try clear hb); (try clear hb2); (try clear hk); (try clear hi); (try clear ho0); obtain ⟨Ao28, co28, eo28⟩ := Kd.R_slice HO225.out; subst eo28) | ((with_reducible refine gate_callee (f := 60) rfl ?_); refine goesL_ (some 27) rfl rfl Try.func60 (by kernel_rfl) rfl #[.slice Ao10 t219.length co10, .slice Ao28 t223.length co28] rfl (by (try simp only [List.map_toArray, List.map_cons, List.map_nil]); first | done | rfl | (simp only [List.length_drop, List.length_take]; rfl)) ?_; (with_reducible refine (verditerref06_SameInts.calls k2 _ _ t219 _ _ t223 false _ ?side1 ?side2 ?side3 ?side4 A13.out).mono ?_); (case side1 => repeat (first | exact (Kd.R_reads' HO_6.out).2.2 | (with_reducible refine Kd.C_alloc ?_ _) | (with_reducible refine Kd.C_drewN ?_ _) | (with_reducible refine Kd.C_drew ?_))); (case side2 => exact (Kd.R_reads' HO_6.out).2.1); (case side3 => repeat (first | exact (Kd.R_reads' HO225.out).2.2 | (with_reducible refine Kd.C_alloc ?_ _) | (with_reducible refine Kd.C_drewN ?_ _) | (with_reducible refine Kd.C_drew ?_))); (case side4 => exact (Kd.R_reads' HO225.out).2.1); rintro e w' ⟨rfl, ⟨nd, rfl⟩⟩; refine ⟨_, rfl, ?_⟩) | (go_at_call 80; (with_reducible refine (verditerref06_mark.calls k2 _ _ l1 x7_2 t227 _ ?side1 ?side2 A17.out).mono ?_); (case side1 => repeat (first | exact (Kd.C_below HR1.out (by repeat (first | (with_reducible first | exact HB.out | apply below_alloc | apply pw_below_drewN | apply below_drew1) | exact HB.out))) | (with_reducible refine Kd.C_alloc ?_ _) | (with_reducible refine Kd.C_drewN ?_ _) | (with_reducible refine Kd.C_drew ?_))); (case side2 => exact HC1.out); rintro e w29 ⟨v228, rfl, ho0, hb⟩; have n0_ := Aside0.mk (Kd.R_elder' (by (with_reducible repeat (first | apply Kd.R_alloc | apply Kd.R_drewN | apply Kd.R_drew)); exact HO_6.out) (Kd.R_base ho0) hb); have n1_ := Aside0.mk (Kd.R_elder' (by (with_reducible repeat (first | apply Kd.R_alloc | apply Kd.R_drewN | apply Kd.R_drew)); exact HO225.out) (Kd.R_base ho0) hb); have n2_ := Aside0.mk (Kd.R_lower (Kd.R_new' (Kd.R_new' ho0 (Kd.R_lt (by (with_reducible repeat (first | apply Kd.R_alloc | apply Kd.R_drewN | apply Kd.R_drew)); exact HO_6.out))) (Kd.R_lt (by (with_reducible repeat (first | apply Kd.R_alloc | apply Kd.R_drewN | apply Kd.R_drew)); exact HO225.out))) (below_size (by repeat (first | (with_reducible first | exact HB.out | apply below_alloc | apply pw_below_drewN | apply below_drew1) | exact HB.out)))); have n3_ := Aside0.mk (below_step (by repeat (first | (with_reducible first | exact HB.out | apply below_alloc | apply pw_below_drewN | apply below_drew1) | exact HB.out)) hb); clear HO_6; clear HO225; clear HB; have HO_6 := n0_; have HO225 := n1_; have HO229 := n2_; have HB := n3_; clear n0_ n1_ n2_ n3_; (try clear hb); (try clear hb2); (try clear hk); (try clear hi); (try clear ho0); obtain ⟨Ao30, co30, eo30⟩ := Kd.R_slice HO229.out; subst eo30) | (go_at_call 79; (with_reducible refine (verditerref06_times.calls k2 _ _ t227 (-1) t230 _ ?side1 ?side2 A18.out).mono ?_); (case side1 => repeat (first | exact (Kd.R_reads' HO229.out).2.2 | (with_reducible refine Kd.C_alloc ?_ _) | (with_reducible refine Kd.C_drewN ?_ _) | (with_reducible refine Kd.C_drew ?_))); (case side2 => exact (Kd.R_reads' HO229.out).2.1); rintro e w31 ⟨v231, rfl, ho0, hb⟩; have n0_ := Aside0.mk (Kd.R_elder' (by (with_reducible repeat (first | apply Kd.R_alloc | apply Kd.R_drewN | apply Kd.R_drew)); exact HO_6.out) (Kd.R_base ho0) hb); have n1_ := Aside0.mk (Kd.R_elder' (by (with_reducible repeat (first | apply Kd.R_alloc | apply Kd.R_drewN | apply Kd.R_drew)); exact HO225.out) (Kd.R_base ho0) hb); have n2_ := Aside0.mk (Kd.R_elder' (by (with_reducible repeat (first | apply Kd.R_alloc | apply Kd.R_drewN | apply Kd.R_drew)); exact HO229.out) (Kd.R_base ho0) hb); have n3_ := Aside0.mk (Kd.R_lower (Kd.R_new' (Kd.R_new' (Kd.R_new' ho0 (Kd.R_lt (by (with_reducible repeat (first | apply Kd.R_alloc | apply Kd.R_drewN | apply Kd.R_drew)); exact HO_6.out))) (Kd.R_lt (by (with_reducible repeat (first | apply Kd.R_alloc | apply Kd.R_drewN | apply Kd.R_drew)); exact HO225.out))) (Kd.R_lt (by (with_reducible repeat (first | apply Kd.R_alloc | apply Kd.R_drewN | apply Kd.R_drew)); exact HO229.out))) (below_size (by repeat (first | (with_reducible first | exact HB.out | apply below_alloc | apply pw_below_drewN | apply below_drew1) | exact HB.out)))); have n4_ := Aside0.mk (below_step (by repeat (first | (with_reducible first | exact HB.out | apply below_alloc | apply pw_below_drewN | apply below_drew1) | exact HB.out)) hb); clear HO_6; clear HO225; clear HO229; clear HB; have HO_6 := n0_; have HO225 := n1_; have HO229 := n2_; have HO232 := n3_; have HB := n4_; clear n0_ n1_ n2_ n3_ n4_; (try clear hb); (try clear hb2); (try clear hk); (try clear hi); (try clear ho0); obtain ⟨Ao32, co32, eo32⟩ := Kd.R_slice HO232.out; subst eo32) | (go_at_call 60; (with_reducible refine (verditerref06_SameInts.calls k2 _ _ t219 _ _ t230 false _ ?side1 ?side2 ?side3 ?side4 A19.out).mono ?_); (case side1 => repeat (first | exact (Kd.R_reads' HO_6.out).2.2 | (with_reducible refine Kd.C_alloc ?_ _) | (with_reducible refine Kd.C_drewN ?_ _) | (with_reducible refine Kd.C_drew ?_))); (case side2 => exact (Kd.R_reads' HO_6.out).2.1); (case side3 => repeat (first | exact (Kd.R_reads' HO232.out).2.2 | (with_reducible refine Kd.C_alloc ?_ _) | (with_reducible refine Kd.C_drewN ?_ _) | (with_reducible refine Kd.C_drew ?_))); (case side4 => exact (Kd.R_reads' HO232.out).2.1); rintro e w' ⟨rfl, ⟨nd, rfl⟩⟩))
                    go_roundg k2
                    case measure => have := HK1.out; have := HK2.out; omega
                    case rel => exact ⟨(wrap64 (x7_2 + 1)), (by first | rfl | (simp; done) | (simp [*]; done)), H', ⟨by have := HK1.out; have := HK2.out; omega⟩, ⟨by (with_reducible repeat (first | apply Kd.R_alloc | apply Kd.R_drewN | apply Kd.R_drew)); exact Kd.R_mono HO_6.out (fun _ hk => trivial)⟩, ⟨by repeat (first | (with_reducible first | exact HB.out | apply below_alloc | apply pw_below_drewN | apply below_drew1) | exact HB.out)⟩⟩
              · rw [if_neg c11] at H
                have c11b0 : decide (x7_2 < x5_1) = false := decide_eq_false c11
                clear c11
                have H' := Aside0.mk H
                clear H
                go_wp2
                go_roundg k2
                case measure => have := HK1.out; have := HK2.out; omega
                case rel => exact ⟨(wrap64 (x5_1 + 1)), (by first | rfl | (simp; done) | (simp [*]; done)), H', ⟨by have := HK1.out; have := HK2.out; omega⟩, ⟨by repeat (first | (with_reducible first | exact HB.out | apply below_alloc | apply pw_below_drewN | apply below_drew1) | exact HB.out)⟩⟩
      · rw [if_neg c3] at H
        have c3b0 : decide (x5_1 < a0) = false := decide_eq_false c3
        clear c3
        obtain rfl := Option.some.inj H
        go_wp2
        go_ret
        exact ⟨by first | rfl | (simp [errW_none, errW_some] <;> rfl) | (simp [*, errW_none, errW_some] <;> rfl), by repeat (first | (with_reducible first | exact HB.out | apply below_alloc | apply pw_below_drewN | apply below_drew1) | exact HB.out)⟩

end Go.Proofs.Ytdbeochifofdoaa.X
end

section
-- Written by a program of this session (wip/hook.py, which runs the kit's print.py with contracts proved by hand). Not trusted: Lean checks it.
namespace Go.Proofs.Ytdbeochifofdoaa.X
open Go.RowKit Go.Proofs.YtdbeochifofdoaaW.PrintWords Go.Proofs.YtdbeochifofdoaaW.PrintLast Go.Proofs.YtdbeochifofdoaaW.PrintMore
attribute [local go_sem] max2_int min2_int max_two min_two max_three min_three max_four min_four   -- for this text's walks alone
set_option linter.unusedVariables false
set_option linter.unusedSimpArgs false

/-! ### verditerlaw06_Long: function 43 -/
def verditerlaw06_Long.l0 : Nat → List (S53) → Int → Option (Bool)
  | 0, _, _ => none
  | k + 1, x0, x3 => if x3 < (x0.length : Int) then (if 0 ≤ x3 then (if (((rd_T53 x0 x3).f0).length : Int) > 50 then (some true) else (if (((rd_T53 x0 x3).f1).length : Int) > 50 then (some true) else (verditerlaw06_Long.l0 k x0 (wrap64 (x3 + 1))))) else (none)) else (some false)
def verditerlaw06_Long.f (k : Nat) (l0 : List (S53)) : Option (Bool) := if (l0.length : Int) > 50 then (some true) else (verditerlaw06_Long.l0 k l0 0)
theorem verditerlaw06_Long.mono_l : ∀ k, (∀ y0 y1, LeO (verditerlaw06_Long.l0 k y0 y1) (verditerlaw06_Long.l0 (k + 1) y0 y1))
  | 0 => fun _ _ r h => by simp [verditerlaw06_Long.l0] at h
  | k + 1 => by
    have ih0 := verditerlaw06_Long.mono_l k
    · intro y0 y1
      unfold verditerlaw06_Long.l0
      repeat' first
      | (with_reducible exact ih0 _ _)
      | (with_reducible exact LeO.refl _)
      | (with_reducible exact LeO.none _)
      | (with_reducible refine LeO.ite ?_ ?_)
      | (with_reducible refine LeO.bind ?_ (fun _ => ?_))
      | exact ih0 _ _
      | exact LeO.none _
      | refine LeO.ite ?_ ?_
      | refine LeO.bind ?_ (fun _ => ?_)
theorem verditerlaw06_Long.mono : ∀ a0 k, LeO (verditerlaw06_Long.f k a0) (verditerlaw06_Long.f (k + 1) a0) := by
  intro a0 k
  have ih0 := verditerlaw06_Long.mono_l k
  unfold verditerlaw06_Long.f
  repeat' first
      | (with_reducible exact ih0 _ _)
      | (with_reducible exact LeO.refl _)
      | (with_reducible exact LeO.none _)
      | (with_reducible refine LeO.ite ?_ ?_)
      | (with_reducible refine LeO.bind ?_ (fun _ => ?_))
      | exact ih0 _ _
      | exact LeO.none _
      | refine LeO.ite ?_ ?_
      | refine LeO.bind ?_ (fun _ => ?_)
set_option maxHeartbeats 8000000 in
set_option maxRecDepth 100000 in
theorem verditerlaw06_Long.calls (k : Nat) (A0 : Option Addr) (c0 : Nat) (l0 : List (S53)) (r : Bool) (w : World) (hr0 : Kd.C k53 w A0 l0.length l0) (hc0 : l0.length ≤ c0) (h : verditerlaw06_Long.f k l0 = some r) :
    Calls Try.prog 43 #[.slice A0 l0.length c0] w fun e w' => e = .returned (.bool r) ∧ Drawn0 w w' := by
  have HR0 := Aside0.mk hr0
  have HC0 := Aside0.mk hc0
  clear hr0 hc0
  have H : (if (l0.length : Int) > 50 then (some true) else (verditerlaw06_Long.l0 k l0 0)) = some r := h
  clear h
  by_cases c2 : (l0.length : Int) > 50
  · rw [if_pos c2] at H
    have c2b0 : decide (50 < (l0.length : Int)) = true := decide_eq_true c2
    have c2b1 : decide (50 < l0.length) = true := decide_eq_true (by omega)
    clear c2
    obtain rfl := Option.some.inj H
    go_enter Try.func43, Try.ntmps43
    go_wp2
    go_ret
    exact ⟨by first | rfl | (simp; done) | (simp [*]; done), by repeat (first | exact Drawn0.refl _ | apply Drawn0.step)⟩
  · rw [if_neg c2] at H
    have c2b0 : decide (50 < (l0.length : Int)) = false := decide_eq_false c2
    have c2b1 : decide (50 < l0.length) = false := decide_eq_false (by omega)
    clear c2
    have H' := Aside0.mk H
    clear H
    go_enter Try.func43, Try.ntmps43
    go_wp2
    go_loopg [3] k (fun kq v3 w' => ∃ (x3_1 : Int), v3 = .int .i64 x3_1 ∧ Aside0 (verditerlaw06_Long.l0 kq l0 x3_1 = some r) ∧ Aside0 (kq ≤ k) ∧ Drawn0 w w')
    case atStart => exact ⟨(0), (by first | rfl | (simp; done) | (simp [*]; done)), H', ⟨Nat.le_refl _⟩, by repeat (first | exact Drawn0.refl _ | apply Drawn0.step)⟩
    case round =>
      clear H'
      try clear c2
      try clear c2b0
      try clear c2b1
      try clear p2
      obtain ⟨x3_1, rfl, HA, HK1, ⟨m1, rfl⟩⟩ := hrel
      cases gk with
      | zero => exact absurd HA.out (by simp [verditerlaw06_Long.l0])
      | succ k1 =>
        have H := HA.out
        clear HA
        simp only [verditerlaw06_Long.l0] at H
        by_cases c3 : x3_1 < (l0.length : Int)
        · rw [if_pos c3] at H
          have c3b0 : decide (x3_1 < (l0.length : Int)) = true := decide_eq_true c3
          clear c3
          by_cases c4 : 0 ≤ x3_1
          · rw [if_pos c4] at H
            have c4b0 : decide (0 ≤ x3_1) = true := decide_eq_true c4
            clear c4
            by_cases c5 : (((rd_T53 l0 x3_1).f0).length : Int) > 50
            · rw [if_pos c5] at H
              have c5b0 : decide (50 < (((rd_T53 l0 x3_1).f0).length : Int)) = true := decide_eq_true c5
              have c5b1 : decide (50 < ((rd_T53 l0 x3_1).f0).length) = true := decide_eq_true (by omega)
              clear c5
              obtain rfl := Option.some.inj H
              have p236 : 0 ≤ (x3_1 : Int) := of_decide_eq_true (by first | (with_reducible assumption) | assumption)
              have q236 : x3_1 < (l0.length : Int) := of_decide_eq_true (by first | (with_reducible assumption) | assumption)
              obtain ⟨ad236, A236_0, c236_0, A236_1, c236_1, e236, hx236_0, hx236_1, hl236_0, hi236_0, hl236_1, hi236_1⟩ := at_T53 HR0.out x3_1 p236 q236
              cases e236
              have HR236_0 := Aside0.mk hi236_0
              have HC236_0 := Aside0.mk hl236_0
              clear hi236_0 hl236_0
              have HR236_1 := Aside0.mk hi236_1
              have HC236_1 := Aside0.mk hl236_1
              clear hi236_1 hl236_1
              replace p236 := eq_true p236
              replace q236 := eq_true q236
              go_wp2
              go_ret
              exact ⟨by first | rfl | (simp; done) | (simp [*]; done), by repeat (first | exact Drawn0.refl _ | apply Drawn0.step)⟩
            · rw [if_neg c5] at H
              have c5b0 : decide (50 < (((rd_T53 l0 x3_1).f0).length : Int)) = false := decide_eq_false c5
              have c5b1 : decide (50 < ((rd_T53 l0 x3_1).f0).length) = false := decide_eq_false (by omega)
              clear c5
              by_cases c6 : (((rd_T53 l0 x3_1).f1).length : Int) > 50
              · rw [if_pos c6] at H
                have c6b0 : decide (50 < (((rd_T53 l0 x3_1).f1).length : Int)) = true := decide_eq_true c6
                have c6b1 : decide (50 < ((rd_T53 l0 x3_1).f1).length) = true := decide_eq_true (by omega)
                clear c6
                obtain rfl := Option.some.inj H
                have p236 : 0 ≤ (x3_1 : Int) := of_decide_eq_true (by first | (with_reducible assumption) | assumption)
                have q236 : x3_1 < (l0.length : Int) := of_decide_eq_true (by first | (with_reducible assumption) | assumption)
                obtain ⟨ad236, A236_0, c236_0, A236_1, c236_1, e236, hx236_0, hx236_1, hl236_0, hi236_0, hl236_1, hi236_1⟩ := at_T53 HR0.out x3_1 p236 q236
                cases e236
                have HR236_0 := Aside0.mk hi236_0
                have HC236_0 := Aside0.mk hl236_0
                clear hi236_0 hl236_0
                have HR236_1 := Aside0.mk hi236_1
                have HC236_1 := Aside0.mk hl236_1
                clear hi236_1 hl236_1
                replace p236 := eq_true p236
                replace q236 := eq_true q236
                have p237 : 0 ≤ (x3_1 : Int) := of_decide_eq_true (by first | (with_reducible assumption) | assumption)
                have q237 : x3_1 < (l0.length : Int) := of_decide_eq_true (by first | (with_reducible assumption) | assumption)
                obtain ⟨ad237, A237_0, c237_0, A237_1, c237_1, e237, hx237_0, hx237_1, hl237_0, hi237_0, hl237_1, hi237_1⟩ := at_T53 HR0.out x3_1 p237 q237
                obtain rfl : ad236 = ad237 := (by injection e237)
                have HR237_0 := Aside0.mk hi237_0
                have HC237_0 := Aside0.mk hl237_0
                clear hi237_0 hl237_0
                have HR237_1 := Aside0.mk hi237_1
                have HC237_1 := Aside0.mk hl237_1
                clear hi237_1 hl237_1
                replace p237 := eq_true p237
                replace q237 := eq_true q237
                have ea_ := Option.some.inj (hx236_0.symm.trans hx237_0)
                injection ea_ with ea_ en_ ec_
                subst ea_
                subst ec_
                clear en_
                have ea_ := Option.some.inj (hx236_1.symm.trans hx237_1)
                injection ea_ with ea_ en_ ec_
                subst ea_
                subst ec_
                clear en_
                go_wp2
                go_ret
                exact ⟨by first | rfl | (simp; done) | (simp [*]; done), by repeat (first | exact Drawn0.refl _ | apply Drawn0.step)⟩
              · rw [if_neg c6] at H
                have c6b0 : decide (50 < (((rd_T53 l0 x3_1).f1).length : Int)) = false := decide_eq_false c6
                have c6b1 : decide (50 < ((rd_T53 l0 x3_1).f1).length) = false := decide_eq_false (by omega)
                clear c6
                have H' := Aside0.mk H
                clear H
                have p236 : 0 ≤ (x3_1 : Int) := of_decide_eq_true (by first | (with_reducible assumption) | assumption)
                have q236 : x3_1 < (l0.length : Int) := of_decide_eq_true (by first | (with_reducible assumption) | assumption)
                obtain ⟨ad236, A236_0, c236_0, A236_1, c236_1, e236, hx236_0, hx236_1, hl236_0, hi236_0, hl236_1, hi236_1⟩ := at_T53 HR0.out x3_1 p236 q236
                cases e236
                have HR236_0 := Aside0.mk hi236_0
                have HC236_0 := Aside0.mk hl236_0
                clear hi236_0 hl236_0
                have HR236_1 := Aside0.mk hi236_1
                have HC236_1 := Aside0.mk hl236_1
                clear hi236_1 hl236_1
                replace p236 := eq_true p236
                replace q236 := eq_true q236
                have p237 : 0 ≤ (x3_1 : Int) := of_decide_eq_true (by first | (with_reducible assumption) | assumption)
                have q237 : x3_1 < (l0.length : Int) := of_decide_eq_true (by first | (with_reducible assumption) | assumption)
                obtain ⟨ad237, A237_0, c237_0, A237_1, c237_1, e237, hx237_0, hx237_1, hl237_0, hi237_0, hl237_1, hi237_1⟩ := at_T53 HR0.out x3_1 p237 q237
                obtain rfl : ad236 = ad237 := (by injection e237)
                have HR237_0 := Aside0.mk hi237_0
                have HC237_0 := Aside0.mk hl237_0
                clear hi237_0 hl237_0
                have HR237_1 := Aside0.mk hi237_1
                have HC237_1 := Aside0.mk hl237_1
                clear hi237_1 hl237_1
                replace p237 := eq_true p237
                replace q237 := eq_true q237
                have ea_ := Option.some.inj (hx236_0.symm.trans hx237_0)
                injection ea_ with ea_ en_ ec_
                subst ea_
                subst ec_
                clear en_
                have ea_ := Option.some.inj (hx236_1.symm.trans hx237_1)
                injection ea_ with ea_ en_ ec_
                subst ea_
                subst ec_
                clear en_
                go_wp2
                go_roundg k1
                case measure => have := HK1.out; omega
                case rel => exact ⟨(wrap64 (x3_1 + 1)), (by first | rfl | (simp; done) | (simp [*]; done)), H', ⟨by have := HK1.out; omega⟩, by repeat (first | exact Drawn0.refl _ | apply Drawn0.step)⟩
          · rw [if_neg c4] at H
            exact absurd H (by simp)
        · rw [if_neg c3] at H
          have c3b0 : decide (x3_1 < (l0.length : Int)) = false := decide_eq_false c3
          clear c3
          obtain rfl := Option.some.inj H
          go_wp2
          go_ret
          exact ⟨by first | rfl | (simp; done) | (simp [*]; done), by repeat (first | exact Drawn0.refl _ | apply Drawn0.step)⟩

end Go.Proofs.Ytdbeochifofdoaa.X
end

section
/-! What the document's small functions come to. -/
namespace Go.Proofs.Ytdbeochifofdoaa.X
open Go.RowKit Go.Proofs.YtdbeochifofdoaaW.PrintWords Go.Proofs.YtdbeochifofdoaaW.PrintLast
set_option linter.unusedVariables false
set_option linter.unusedSimpArgs false

theorem wrs (i : Nat) (h : i < 9223372036854775807) : wrap64 ((i : Int) + 1) = ((i + 1 : Nat) : Int) := by rw [wr1 (by omega) (by omega)]; omega

theorem has_l0 (l : List Int) (x : Int) (hl : l.length < 9223372036854775807) : ∀ (d k i : Nat), i ≤ l.length → l.length - i = d → d < k → verditerref06_has.l0 k l x i = some ((l.drop i).contains x)
  | 0, k + 1, i, h1, h2, _ => by
    unfold verditerref06_has.l0
    rw [if_neg (by omega), List.drop_eq_nil_of_le (by omega)]
    rfl
  | d + 1, k + 1, i, h1, h2, h3 => by
    unfold verditerref06_has.l0
    rw [if_pos (by omega), if_pos (by omega), rd_nat, dropD 0 l i (by omega), List.contains_cons, wrs i (by omega)]
    have ih := has_l0 l x hl d k (i + 1) (by omega) (by omega) (by omega)
    by_cases hx : l.getD i 0 = x
    · rw [if_pos hx, hx]; simp
    · have hbe : (x == l.getD i 0) = false := by rw [beq_eq_false_iff_ne]; exact fun e => hx e.symm
      rw [if_neg hx, ih, hbe, Bool.false_or]
theorem has_f (l : List Int) (x : Int) (k : Nat) (hl : l.length < 9223372036854775807) (hk : l.length < k) : verditerref06_has.f k l x = some (l.contains x) := by
  unfold verditerref06_has.f
  exact (has_l0 l x hl l.length k 0 (by omega) (by omega) hk).trans (by simp)

/-- The document's mark of a lot. -/
def markOf (x : Int) (y : S53) : Int := if y.f1.contains x then -1 else if y.f0.contains x then 1 else 0
def refMark (l : List S53) (x : Int) : List Int := l.map (markOf x)
theorem mark_l0 (l : List S53) (x : Int) (hl : l.length < 17592186044416) (hs : ∀ y, y ∈ l → y.f0.length ≤ 50 ∧ y.f1.length ≤ 50) :
    ∀ (d k i : Nat) (acc : List Int), i ≤ l.length → l.length - i = d → acc.length = i → d + 51 < k → verditerref06_mark.l0 k l x acc i = some (acc ++ refMark (l.drop i) x)
  | 0, k + 1, i, acc, h1, h2, _, _ => by
    unfold verditerref06_mark.l0
    rw [if_neg (by omega), List.drop_eq_nil_of_le (by omega)]
    simp [refMark]
  | d + 1, k + 1, i, acc, h1, h2, h3, h4 => by
    unfold verditerref06_mark.l0
    have hb := hs _ (mem_getD z53 l i (by omega))
    have hr : refMark (l.drop i) x = markOf x (l.getD i z53) :: refMark (l.drop (i + 1)) x := by rw [dropD z53 l i (by omega)]; rfl
    have ih := fun v => mark_l0 l x hl hs d k (i + 1) (acc ++ [v]) (by omega) (by omega) (by simp [h3]) (by omega)
    rw [if_pos (by omega), if_pos (by omega), show rd_T53 l (i : Int) = l.getD i z53 from rfl, has_f _ x k (by omega) (by omega), has_f _ x k (by omega) (by omega), wrs i (by omega), hr]
    simp only [Option.bind_some, if_pos (show acc.length < 17592186044416 by omega), ih]
    unfold markOf
    cases (l.getD i z53).f0.contains x <;> cases (l.getD i z53).f1.contains x <;> simp
theorem mark_f (l : List S53) (x : Int) (k : Nat) (hl : l.length < 17592186044416) (hs : ∀ y, y ∈ l → y.f0.length ≤ 50 ∧ y.f1.length ≤ 50) (hk : l.length + 51 < k) : verditerref06_mark.f k l x = some (refMark l x) := by
  unfold verditerref06_mark.f
  exact (mark_l0 l x hl hs l.length k 0 [] (by omega) (by omega) rfl hk).trans (by simp)

theorem times_l0 (l : List Int) (x : Int) (hl : l.length < 17592186044416) :
    ∀ (d k i : Nat) (acc : List Int), i ≤ l.length → l.length - i = d → acc.length = i → d < k → verditerref06_times.l0 k l x acc i = some (acc ++ (l.drop i).map fun y => wrap64 (x * y))
  | 0, k + 1, i, acc, h1, h2, _, _ => by
    unfold verditerref06_times.l0
    rw [if_neg (by omega), List.drop_eq_nil_of_le (by omega)]
    simp
  | d + 1, k + 1, i, acc, h1, h2, h3, h4 => by
    unfold verditerref06_times.l0
    have ih := times_l0 l x hl d k (i + 1) (acc ++ [wrap64 (x * l.getD i 0)]) (by omega) (by omega) (by simp [h3]) (by omega)
    rw [if_pos (by omega), if_pos (by omega), if_pos (show acc.length < 17592186044416 by omega), rd_nat, wrs i (by omega), ih, dropD 0 l i (by omega)]
    simp
theorem times_f (l : List Int) (x : Int) (k : Nat) (hl : l.length < 17592186044416) (hk : l.length < k) : verditerref06_times.f k l x = some (l.map fun y => wrap64 (x * y)) := by
  unfold verditerref06_times.f
  exact (times_l0 l x hl l.length k 0 [] (by omega) (by omega) rfl hk).trans (by simp)
theorem isBlank_l0 (l : List Int) (hl : l.length < 9223372036854775807) : ∀ (d k i : Nat), i ≤ l.length → l.length - i = d → d < k → verditerref06_isBlank.l0 k l i = some ((l.drop i).all (· == 0))
  | 0, k + 1, i, h1, h2, _ => by
    unfold verditerref06_isBlank.l0
    rw [if_neg (by omega), List.drop_eq_nil_of_le (by omega)]
    rfl
  | d + 1, k + 1, i, h1, h2, h3 => by
    unfold verditerref06_isBlank.l0
    rw [if_pos (by omega), if_pos (by omega), rd_nat, dropD 0 l i (by omega), List.all_cons, wrs i (by omega)]
    have ih := isBlank_l0 l hl d k (i + 1) (by omega) (by omega) (by omega)
    by_cases hx : l.getD i 0 = 0
    · rw [if_pos hx, hx, ih]; rfl
    · have hbe : (l.getD i 0 == 0) = false := by rw [beq_eq_false_iff_ne]; exact hx
      rw [if_neg hx, hbe]
      rfl
theorem isBlank_f (l : List Int) (k : Nat) (hl : l.length < 9223372036854775807) (hk : l.length < k) : verditerref06_isBlank.f k l = some (l.all (· == 0)) := by
  unfold verditerref06_isBlank.f
  exact (isBlank_l0 l hl l.length k 0 (by omega) (by omega) hk).trans (by simp)
theorem same_l0 (l m : List Int) (hl : l.length < 9223372036854775807) (he : l.length = m.length) : ∀ (d k i : Nat), i ≤ l.length → l.length - i = d → d < k → verditerref06_SameInts.l0 k l m i = some (l.drop i == m.drop i)
  | 0, k + 1, i, h1, h2, _ => by
    unfold verditerref06_SameInts.l0
    rw [if_neg (by omega), List.drop_eq_nil_of_le (by omega), List.drop_eq_nil_of_le (by omega)]
    rfl
  | d + 1, k + 1, i, h1, h2, h3 => by
    unfold verditerref06_SameInts.l0
    rw [if_pos (by omega), if_pos (by omega), if_pos (by omega), rd_nat, rd_nat, dropD 0 l i (by omega), dropD 0 m i (by omega), List.cons_beq_cons, wrs i (by omega)]
    have ih := same_l0 l m hl he d k (i + 1) (by omega) (by omega) (by omega)
    by_cases hx : l.getD i 0 = m.getD i 0
    · have hbe : (l.getD i 0 == m.getD i 0) = true := by rw [beq_iff_eq]; exact hx
      rw [if_pos hx, ih, hbe, Bool.true_and]
    · have hbe : (l.getD i 0 == m.getD i 0) = false := by rw [beq_eq_false_iff_ne]; exact hx
      rw [if_neg hx, hbe]
      rfl
theorem same_f (l m : List Int) (k : Nat) (hl : l.length < 9223372036854775807) (hk : l.length < k) : verditerref06_SameInts.f k l m = some (l == m) := by
  unfold verditerref06_SameInts.f
  by_cases he : l.length = m.length
  · rw [if_pos (by omega)]
    exact (same_l0 l m hl he l.length k 0 (by omega) (by omega) hk).trans (by simp)
  · rw [if_neg (by omega)]
    have : (l == m) = false := by rw [beq_eq_false_iff_ne]; exact fun e => he (by rw [e])
    rw [this]
end Go.Proofs.Ytdbeochifofdoaa.X
end

section
/-! verditerref06.isSet. -/
namespace Go.Proofs.Ytdbeochifofdoaa.X
open Go.RowKit Go.Proofs.YtdbeochifofdoaaW.PrintWords Go.Proofs.YtdbeochifofdoaaW.PrintLast Go.Proofs.YtdbeochifofdoaaW.PrintMore
set_option linter.unusedVariables false
set_option linter.unusedSimpArgs false

def verditerref06_isSet.f (k : Nat) (l0 : List Int) (a1 : Int) : Option Bool := if 1 ≤ a1 ∧ a1 ≤ 13 then some (isSetB a1 l0) else none
theorem verditerref06_isSet.mono : ∀ a0 a1 k, LeO (verditerref06_isSet.f k a0 a1) (verditerref06_isSet.f (k + 1) a0 a1) := fun _ _ _ => LeO.refl _
theorem rwithin_b (a b c : Int) : verditerref06_within.f a b c = some (decide (b ≤ a) && decide (a ≤ c)) := by
  unfold verditerref06_within.f
  by_cases h : a ≥ b
  · rw [if_pos h]; simp [h]
  · rw [if_neg h]; simp [show ¬ b ≤ a from h]

set_option maxHeartbeats 4000000 in
set_option maxRecDepth 100000 in
theorem verditerref06_isSet.calls (k : Nat) (A0 : Option Addr) (c0 : Nat) (l0 : List Int) (a1 : Int) (r : Bool) (w : World) (hr0 : Kd.C (Kd.int .i64) w A0 l0.length l0) (hc0 : l0.length ≤ c0) (h : verditerref06_isSet.f k l0 a1 = some r) :
    Calls Try.prog 100 #[.slice A0 l0.length c0, .int .i64 a1] w fun e w' => e = .returned (.bool r) ∧ Drawn0 w w' := by
  unfold verditerref06_isSet.f at h
  by_cases hp : 1 ≤ a1 ∧ a1 ≤ 13
  rotate_left
  · rw [if_neg hp] at h; cases h
  rw [if_pos hp] at h
  obtain rfl := Option.some.inj h
  clear h
  have hp1 := hp.1
  have hp2 := hp.2
  have hmx := Kd.C_max hr0
  have HR := Aside0.mk hr0
  clear hr0 hp
  have hwa : IntKind.i64.wrap (a1 - 1) = a1 - 1 := (i64_w _).trans (wr_of (by omega) (by omega))
  go_enter Try.func100, Try.ntmps100
  go_wp2
  go_loopg [5] l0.length (fun gg s wr => ∃ i : Nat, i ≤ l0.length ∧ l0.length - i ≤ gg ∧ s = .int .i64 i ∧ Aside0 (∃ n, wr = w.drewN n) ∧ Aside0 (setFrom a1 (prevOf l0 i) (l0.drop i) = isSetB a1 l0))
  case atStart => exact ⟨0, by omega, by omega, rfl, ⟨⟨0, rfl⟩⟩, ⟨rfl⟩⟩
  case round =>
    obtain ⟨i, hi, hg, rfl, BW, SV⟩ := hrel
    obtain ⟨n, rfl⟩ := BW.out
    clear BW
    by_cases hlt : i < l0.length
    · have hltz : (i : Int) < (l0.length : Int) := by omega
      obtain ⟨ad, e1, hx⟩ := Kd.at_int HR.out i (by omega) hltz
      subst e1
      simp only [Int.toNat_natCast] at hx
      rw [rd_nat] at hx
      have SV2 : Aside0 ((((decide (0 ≤ l0.getD i 0) && decide (l0.getD i 0 ≤ a1 - 1)) && aboveB (prevOf l0 i) (l0.getD i 0)) && setFrom a1 (some (l0.getD i 0)) (l0.drop (i + 1))) = isSetB a1 l0) := ⟨by rw [← SV.out, dropD 0 l0 i hlt]; rfl⟩
      have PN : Aside0 (prevOf l0 (i + 1) = some (l0.getD i 0)) := ⟨by unfold prevOf; rw [if_neg (by omega)]; rfl⟩
      clear SV
      have HWF := Aside0.mk (rwithin_b (l0.getD i 0) 0 (a1 - 1))
      cases hb : (decide (0 ≤ l0.getD i 0) && decide (l0.getD i 0 ≤ a1 - 1)) with
      | false =>
        rw [hb] at HWF SV2
        clear hb
        generalize l0.getD i 0 = x at *
        go_wp2
        go_quiet (first | (go_at_call 82; (with_reducible refine (verditerref06_within.calls x 0 (a1 - 1) false _ HWF.out).mono ?_); rintro e w' ⟨rfl, ⟨nd, rfl⟩⟩; (first | exact ⟨rfl, _, World.drewN_drewN _ _ _⟩ | exact ⟨rfl, _, Eq.trans (World.drewN_drewN _ _ _) (congrArg (World.drewN _) (Nat.add_assoc _ _ _))⟩)))
        go_wp2
        go_ret
        have hz : isSetB a1 l0 = false := by rw [← SV2.out]; rfl
        exact ⟨by rw [hz]; rfl, ⟨_, by first | rfl | exact World.drewN_drewN _ _ _⟩⟩
      | true =>
        rw [hb] at HWF SV2
        clear hb
        by_cases hi0 : i = 0
        · subst hi0
          rw [show ad.add 0 = ad from by cases ad; rfl] at hx
          have AB : Aside0 (setFrom a1 (prevOf l0 1) (l0.drop 1) = isSetB a1 l0) := ⟨by rw [← SV2.out, PN.out]; rfl⟩
          clear SV2 PN
          generalize l0.getD 0 0 = x at *
          go_wp2
          go_quiet (first | (go_at_call 82; (with_reducible refine (verditerref06_within.calls x 0 (a1 - 1) true _ HWF.out).mono ?_); rintro e w' ⟨rfl, ⟨nd, rfl⟩⟩; (first | exact ⟨rfl, _, World.drewN_drewN _ _ _⟩ | exact ⟨rfl, _, Eq.trans (World.drewN_drewN _ _ _) (congrArg (World.drewN _) (Nat.add_assoc _ _ _))⟩)))
          go_wp2
          go_roundg (l0.length - 1)
          case measure => omega
          case rel => exact ⟨1, by omega, by omega, by go_num, ⟨⟨_, by first | rfl | exact World.drewN_drewN _ _ _⟩⟩, AB⟩
        · have h0n : 0 < i := by omega
          have h0z : (0 : Int) < (i : Int) := by omega
          have h1z : (0 : Int) ≤ (i : Int) - 1 := by omega
          have h2z : (i : Int) - 1 < (l0.length : Int) := by omega
          have h3z : ((i : Int) - 1).toNat = i - 1 := by omega
          have hwi : IntKind.i64.wrap ((i : Int) - 1) = (i : Int) - 1 := (i64_w _).trans (wr_of (by omega) (by omega))
          obtain ⟨bd, e2, hy⟩ := Kd.at_int HR.out ((i : Int) - 1) h1z h2z
          cases e2
          rw [h3z, show rd l0 ((i : Int) - 1) = l0.getD (i - 1) 0 by unfold rd; rw [h3z]] at hy
          have SV3 : Aside0 ((decide (l0.getD (i - 1) 0 < l0.getD i 0) && setFrom a1 (some (l0.getD i 0)) (l0.drop (i + 1))) = isSetB a1 l0) := ⟨by rw [← SV2.out, show prevOf l0 i = some (l0.getD (i - 1) 0) by unfold prevOf; rw [if_neg hi0]]; rfl⟩
          by_cases hlt2 : l0.getD (i - 1) 0 < l0.getD i 0
          · have AB : Aside0 (setFrom a1 (prevOf l0 (i + 1)) (l0.drop (i + 1)) = isSetB a1 l0) := ⟨by rw [← SV3.out, PN.out, decide_eq_true hlt2]; rfl⟩
            clear SV2 SV3 PN
            generalize l0.getD i 0 = x at *
            generalize l0.getD (i - 1) 0 = y at *
            have hle : ¬ x ≤ y := by omega
            go_wp2
            go_quiet (first | (go_at_call 82; (with_reducible refine (verditerref06_within.calls x 0 (a1 - 1) true _ HWF.out).mono ?_); rintro e w' ⟨rfl, ⟨nd, rfl⟩⟩; (first | exact ⟨rfl, _, World.drewN_drewN _ _ _⟩ | exact ⟨rfl, _, Eq.trans (World.drewN_drewN _ _ _) (congrArg (World.drewN _) (Nat.add_assoc _ _ _))⟩)))
            go_wp2
            go_roundg (l0.length - (i + 1))
            case measure => omega
            case rel => exact ⟨i + 1, by omega, by omega, by go_num, ⟨⟨_, by first | rfl | exact World.drewN_drewN _ _ _⟩⟩, AB⟩
          · have AB : Aside0 (isSetB a1 l0 = false) := ⟨by rw [← SV3.out, decide_eq_false hlt2]; rfl⟩
            clear SV2 SV3 PN
            generalize l0.getD i 0 = x at *
            generalize l0.getD (i - 1) 0 = y at *
            have hle : x ≤ y := by omega
            go_wp2
            go_quiet (first | (go_at_call 82; (with_reducible refine (verditerref06_within.calls x 0 (a1 - 1) true _ HWF.out).mono ?_); rintro e w' ⟨rfl, ⟨nd, rfl⟩⟩; (first | exact ⟨rfl, _, World.drewN_drewN _ _ _⟩ | exact ⟨rfl, _, Eq.trans (World.drewN_drewN _ _ _) (congrArg (World.drewN _) (Nat.add_assoc _ _ _))⟩)))
            go_wp2
            go_ret
            have hz := AB.out
            exact ⟨by rw [hz]; rfl, ⟨_, by first | rfl | exact World.drewN_drewN _ _ _⟩⟩
    · have hltz : ¬ (i : Int) < (l0.length : Int) := by omega
      have AB : Aside0 (isSetB a1 l0 = true) := ⟨by rw [← SV.out, List.drop_eq_nil_of_le (by omega)]; rfl⟩
      clear SV
      go_wp2
      go_ret
      have hz := AB.out
      exact ⟨by rw [hz]; rfl, ⟨_, rfl⟩⟩
end Go.Proofs.Ytdbeochifofdoaa.X
end

section
-- Written by a program of this session (wip/hook.py, which runs the kit's print.py with contracts proved by hand). Not trusted: Lean checks it.
namespace Go.Proofs.Ytdbeochifofdoaa.X
open Go.RowKit Go.Proofs.YtdbeochifofdoaaW.PrintWords Go.Proofs.YtdbeochifofdoaaW.PrintLast Go.Proofs.YtdbeochifofdoaaW.PrintMore
attribute [local go_sem] max2_int min2_int max_two min_two max_three min_three max_four min_four   -- for this text's walks alone
set_option linter.unusedVariables false
set_option linter.unusedSimpArgs false

/-! ### verditerref06_Validate: function 59 -/
mutual
def verditerref06_Validate.l0 : Nat → Int → List (S53) → Int → Option (Int)
  | 0, _, _, _ => none
  | k + 1, x0, x1, x5 => if x5 < (x1.length : Int) then (if 0 ≤ x5 then ((verditerref06_isSet.f k ((rd_T53 x1 x5).f0) x0).bind fun t186 => (if t186 = true then ((verditerref06_isSet.f k ((rd_T53 x1 x5).f1) x0).bind fun t188 => (verditerref06_Validate.j1 k x0 x1 x5 (!t188))) else (verditerref06_Validate.j1 k x0 x1 x5 true))) else (none)) else (some 0)
def verditerref06_Validate.j1 : Nat → Int → List (S53) → Int → Bool → Option (Int)
  | 0, _, _, _, _ => none
  | k + 1, x0, x1, x5, x36 => if x36 = true then (some 1) else (verditerref06_Validate.l1 k x0 x1 x5 0)
def verditerref06_Validate.l1 : Nat → Int → List (S53) → Int → Int → Option (Int)
  | 0, _, _, _, _ => none
  | k + 1, x0, x1, x5, x6 => if 0 ≤ x5 then (if x5 < (x1.length : Int) then (if x6 < (((rd_T53 x1 x5).f0).length : Int) then (if 0 ≤ x6 then ((verditerref06_has.f k ((rd_T53 x1 x5).f1) (rd ((rd_T53 x1 x5).f0) x6)).bind fun t193 => (if t193 = true then (some 6) else (verditerref06_Validate.l1 k x0 x1 x5 (wrap64 (x6 + 1))))) else (none)) else (if (((rd_T53 x1 x5).f0).length : Int) = (((rd_T53 x1 x5).f1).length : Int) then (verditerref06_Validate.l0 k x0 x1 (wrap64 (x5 + 1))) else (some 5))) else (none)) else (none)
end
def verditerref06_Validate.f (k : Nat) (a0 : Int) (l1 : List (S53)) : Option (Int) := (verditerref06_within.f a0 1 13).bind fun t184 => (if t184 = true then (if (l1.length : Int) > 3 then (some 3) else (verditerref06_Validate.l0 k a0 l1 0)) else (some 1))
theorem verditerref06_Validate.mono_l : ∀ k, (∀ y0 y1 y2, LeO (verditerref06_Validate.l0 k y0 y1 y2) (verditerref06_Validate.l0 (k + 1) y0 y1 y2)) ∧ (∀ y0 y1 y2 y3, LeO (verditerref06_Validate.j1 k y0 y1 y2 y3) (verditerref06_Validate.j1 (k + 1) y0 y1 y2 y3)) ∧ (∀ y0 y1 y2 y3, LeO (verditerref06_Validate.l1 k y0 y1 y2 y3) (verditerref06_Validate.l1 (k + 1) y0 y1 y2 y3))
  | 0 => ⟨fun _ _ _ r h => by simp [verditerref06_Validate.l0] at h, fun _ _ _ _ r h => by simp [verditerref06_Validate.j1] at h, fun _ _ _ _ r h => by simp [verditerref06_Validate.l1] at h⟩
  | k + 1 => by
    obtain ⟨ih0, ih1, ih2⟩ := verditerref06_Validate.mono_l k
    refine ⟨?_, ?_, ?_⟩
    · intro y0 y1 y2
      unfold verditerref06_Validate.l0
      repeat' first
      | (with_reducible exact ih0 _ _ _)
      | (with_reducible exact ih1 _ _ _ _)
      | (with_reducible exact ih2 _ _ _ _)
      | (with_reducible exact verditerref06_has.mono _ _ _)
      | (with_reducible exact verditerref06_isSet.mono _ _ _)
      | (with_reducible exact LeO.refl _)
      | (with_reducible exact LeO.none _)
      | (with_reducible refine LeO.ite ?_ ?_)
      | (with_reducible refine LeO.bind ?_ (fun _ => ?_))
      | exact ih0 _ _ _
      | exact ih1 _ _ _ _
      | exact ih2 _ _ _ _
      | exact verditerref06_has.mono _ _ _
      | exact verditerref06_isSet.mono _ _ _
      | exact LeO.none _
      | refine LeO.ite ?_ ?_
      | refine LeO.bind ?_ (fun _ => ?_)
    · intro y0 y1 y2 y3
      unfold verditerref06_Validate.j1
      repeat' first
      | (with_reducible exact ih0 _ _ _)
      | (with_reducible exact ih1 _ _ _ _)
      | (with_reducible exact ih2 _ _ _ _)
      | (with_reducible exact verditerref06_has.mono _ _ _)
      | (with_reducible exact verditerref06_isSet.mono _ _ _)
      | (with_reducible exact LeO.refl _)
      | (with_reducible exact LeO.none _)
      | (with_reducible refine LeO.ite ?_ ?_)
      | (with_reducible refine LeO.bind ?_ (fun _ => ?_))
      | exact ih0 _ _ _
      | exact ih1 _ _ _ _
      | exact ih2 _ _ _ _
      | exact verditerref06_has.mono _ _ _
      | exact verditerref06_isSet.mono _ _ _
      | exact LeO.none _
      | refine LeO.ite ?_ ?_
      | refine LeO.bind ?_ (fun _ => ?_)
    · intro y0 y1 y2 y3
      unfold verditerref06_Validate.l1
      repeat' first
      | (with_reducible exact ih0 _ _ _)
      | (with_reducible exact ih1 _ _ _ _)
      | (with_reducible exact ih2 _ _ _ _)
      | (with_reducible exact verditerref06_has.mono _ _ _)
      | (with_reducible exact verditerref06_isSet.mono _ _ _)
      | (with_reducible exact LeO.refl _)
      | (with_reducible exact LeO.none _)
      | (with_reducible refine LeO.ite ?_ ?_)
      | (with_reducible refine LeO.bind ?_ (fun _ => ?_))
      | exact ih0 _ _ _
      | exact ih1 _ _ _ _
      | exact ih2 _ _ _ _
      | exact verditerref06_has.mono _ _ _
      | exact verditerref06_isSet.mono _ _ _
      | exact LeO.none _
      | refine LeO.ite ?_ ?_
      | refine LeO.bind ?_ (fun _ => ?_)
theorem verditerref06_Validate.mono : ∀ a0 a1 k, LeO (verditerref06_Validate.f k a0 a1) (verditerref06_Validate.f (k + 1) a0 a1) := by
  intro a0 a1 k
  obtain ⟨ih0, ih1, ih2⟩ := verditerref06_Validate.mono_l k
  unfold verditerref06_Validate.f
  repeat' first
      | (with_reducible exact ih0 _ _ _)
      | (with_reducible exact ih1 _ _ _ _)
      | (with_reducible exact ih2 _ _ _ _)
      | (with_reducible exact verditerref06_has.mono _ _ _)
      | (with_reducible exact verditerref06_isSet.mono _ _ _)
      | (with_reducible exact LeO.refl _)
      | (with_reducible exact LeO.none _)
      | (with_reducible refine LeO.ite ?_ ?_)
      | (with_reducible refine LeO.bind ?_ (fun _ => ?_))
      | exact ih0 _ _ _
      | exact ih1 _ _ _ _
      | exact ih2 _ _ _ _
      | exact verditerref06_has.mono _ _ _
      | exact verditerref06_isSet.mono _ _ _
      | exact LeO.none _
      | refine LeO.ite ?_ ?_
      | refine LeO.bind ?_ (fun _ => ?_)
set_option maxHeartbeats 8000000 in
set_option maxRecDepth 100000 in
theorem verditerref06_Validate.calls (k : Nat) (a0 : Int) (A1 : Option Addr) (c1 : Nat) (l1 : List (S53)) (r : Int) (w : World) (hr1 : Kd.C k53 w A1 l1.length l1) (hc1 : l1.length ≤ c1) (h : verditerref06_Validate.f k a0 l1 = some r) :
    Calls Try.prog 59 #[.int .i64 a0, .slice A1 l1.length c1] w fun e w' => e = .returned (.int .i64 r) ∧ Drawn0 w w' := by
  have HR1 := Aside0.mk hr1
  have HC1 := Aside0.mk hc1
  clear hr1 hc1
  have H : ((verditerref06_within.f a0 1 13).bind fun t184 => (if t184 = true then (if (l1.length : Int) > 3 then (some 3) else (verditerref06_Validate.l0 k a0 l1 0)) else (some 1))) = some r := h
  clear h
  replace H := Option.bind_eq_some_iff.mp H
  obtain ⟨t184, A30, H⟩ := H
  replace H : (if t184 = true then (if (l1.length : Int) > 3 then (some 3) else (verditerref06_Validate.l0 k a0 l1 0)) else (some 1)) = some r := H
  have A3 := Aside0.mk A30
  clear A30
  by_cases c4 : t184 = true
  · subst c4
    have H1 : (if (l1.length : Int) > 3 then (some 3) else (verditerref06_Validate.l0 k a0 l1 0)) = some r := by rw [if_pos rfl] at H; exact H
    clear H
    have H := H1
    clear H1
    by_cases c5 : (l1.length : Int) > 3
    · rw [if_pos c5] at H
      have c5b0 : decide (3 < (l1.length : Int)) = true := decide_eq_true c5
      have c5b1 : decide (3 < l1.length) = true := decide_eq_true (by omega)
      clear c5
      obtain rfl := Option.some.inj H
      go_enter Try.func59, Try.ntmps59
      go_wp2_with (first | (go_at_call 82; (with_reducible refine (verditerref06_within.calls a0 1 13 true _ A3.out).mono ?_); rintro e w' ⟨rfl, ⟨nd, rfl⟩⟩; (try first | exact ⟨rfl, _, World.drewN_drewN _ _ _⟩ | exact ⟨rfl, _, Eq.trans (World.drewN_drewN _ _ _) (congrArg (World.drewN _) (Nat.add_assoc _ _ _))⟩)))
      repeat (go_quiet (first | (go_at_call 82; (with_reducible refine (verditerref06_within.calls a0 1 13 true _ A3.out).mono ?_); rintro e w' ⟨rfl, ⟨nd, rfl⟩⟩; (try first | exact ⟨rfl, _, World.drewN_drewN _ _ _⟩ | exact ⟨rfl, _, Eq.trans (World.drewN_drewN _ _ _) (congrArg (World.drewN _) (Nat.add_assoc _ _ _))⟩))); try go_wp2_with (first | (go_at_call 82; (with_reducible refine (verditerref06_within.calls a0 1 13 true _ A3.out).mono ?_); rintro e w' ⟨rfl, ⟨nd, rfl⟩⟩; (try first | exact ⟨rfl, _, World.drewN_drewN _ _ _⟩ | exact ⟨rfl, _, Eq.trans (World.drewN_drewN _ _ _) (congrArg (World.drewN _) (Nat.add_assoc _ _ _))⟩))))
      go_ret
      exact ⟨by first | rfl | (simp; done) | (simp [*]; done), by repeat (first | exact Drawn0.refl _ | apply Drawn0.step)⟩
    · rw [if_neg c5] at H
      have c5b0 : decide (3 < (l1.length : Int)) = false := decide_eq_false c5
      have c5b1 : decide (3 < l1.length) = false := decide_eq_false (by omega)
      clear c5
      have H' := Aside0.mk H
      clear H
      go_enter Try.func59, Try.ntmps59
      go_wp2_with (first | (go_at_call 82; (with_reducible refine (verditerref06_within.calls a0 1 13 true _ A3.out).mono ?_); rintro e w' ⟨rfl, ⟨nd, rfl⟩⟩; (try first | exact ⟨rfl, _, World.drewN_drewN _ _ _⟩ | exact ⟨rfl, _, Eq.trans (World.drewN_drewN _ _ _) (congrArg (World.drewN _) (Nat.add_assoc _ _ _))⟩)))
      repeat (go_quiet (first | (go_at_call 82; (with_reducible refine (verditerref06_within.calls a0 1 13 true _ A3.out).mono ?_); rintro e w' ⟨rfl, ⟨nd, rfl⟩⟩; (try first | exact ⟨rfl, _, World.drewN_drewN _ _ _⟩ | exact ⟨rfl, _, Eq.trans (World.drewN_drewN _ _ _) (congrArg (World.drewN _) (Nat.add_assoc _ _ _))⟩))); try go_wp2_with (first | (go_at_call 82; (with_reducible refine (verditerref06_within.calls a0 1 13 true _ A3.out).mono ?_); rintro e w' ⟨rfl, ⟨nd, rfl⟩⟩; (try first | exact ⟨rfl, _, World.drewN_drewN _ _ _⟩ | exact ⟨rfl, _, Eq.trans (World.drewN_drewN _ _ _) (congrArg (World.drewN _) (Nat.add_assoc _ _ _))⟩))))
      go_loopg [5] k (fun kq v5 w' => ∃ (x5_1 : Int), v5 = .int .i64 x5_1 ∧ Aside0 (verditerref06_Validate.l0 kq a0 l1 x5_1 = some r) ∧ Aside0 (kq ≤ k) ∧ Drawn0 w w')
      case atStart => exact ⟨(0), (by first | rfl | (simp; done) | (simp [*]; done)), H', ⟨Nat.le_refl _⟩, by repeat (first | exact Drawn0.refl _ | apply Drawn0.step)⟩
      case round =>
        clear H'
        try clear c1
        try clear p2
        try clear c4
        try clear c5
        try clear c5b0
        try clear c5b1
        obtain ⟨x5_1, rfl, HA, HK1, ⟨m1, rfl⟩⟩ := hrel
        cases gk with
        | zero => exact absurd HA.out (by simp [verditerref06_Validate.l0])
        | succ k1 =>
          have H := HA.out
          clear HA
          simp only [verditerref06_Validate.l0] at H
          by_cases c6 : x5_1 < (l1.length : Int)
          · rw [if_pos c6] at H
            have c6b0 : decide (x5_1 < (l1.length : Int)) = true := decide_eq_true c6
            clear c6
            have HC7 := Aside0.mk H
            clear H
            go_upto_region 8 with (fail)
            repeat (go_quiet (fail); go_upto_region 8 with (fail))
            go_cut [36] (fun v36 wc => ∃ (kq : Nat) (x36_6 : Bool), v36 = .bool x36_6 ∧ Aside0 (verditerref06_Validate.j1 kq a0 l1 x5_1 x36_6 = some r) ∧ Aside0 (kq ≤ k1) ∧ Drawn0 w wc)
            case first =>
              have H := HC7.out
              clear HC7
              by_cases c8 : 0 ≤ x5_1
              · rw [if_pos c8] at H
                have c8b0 : decide (0 ≤ x5_1) = true := decide_eq_true c8
                clear c8
                (first | rw [c8b0] | (simp only [i64_w, i32_w]; rw [c8b0]) | skip)
                replace H := Option.bind_eq_some_iff.mp H
                obtain ⟨t186, A90, H⟩ := H
                replace H : (if t186 = true then ((verditerref06_isSet.f k1 ((rd_T53 l1 x5_1).f1) a0).bind fun t188 => (verditerref06_Validate.j1 k1 a0 l1 x5_1 (!t188))) else (verditerref06_Validate.j1 k1 a0 l1 x5_1 true)) = some r := H
                have A9 := Aside0.mk A90
                clear A90
                by_cases c10 : t186 = true
                · subst c10
                  have H1 : ((verditerref06_isSet.f k1 ((rd_T53 l1 x5_1).f1) a0).bind fun t188 => (verditerref06_Validate.j1 k1 a0 l1 x5_1 (!t188))) = some r := by rw [if_pos rfl] at H; exact H
                  clear H
                  have H := H1
                  clear H1
                  replace H := Option.bind_eq_some_iff.mp H
                  obtain ⟨t188, A110, H⟩ := H
                  replace H : (verditerref06_Validate.j1 k1 a0 l1 x5_1 (!t188)) = some r := H
                  have A11 := Aside0.mk A110
                  clear A110
                  have H' := Aside0.mk H
                  clear H
                  have p185 : 0 ≤ (x5_1 : Int) := of_decide_eq_true (by first | (with_reducible assumption) | assumption)
                  have q185 : x5_1 < (l1.length : Int) := of_decide_eq_true (by first | (with_reducible assumption) | assumption)
                  obtain ⟨ad185, A185_0, c185_0, A185_1, c185_1, e185, hx185_0, hx185_1, hl185_0, hi185_0, hl185_1, hi185_1⟩ := at_T53 HR1.out x5_1 p185 q185
                  cases e185
                  have HR185_0 := Aside0.mk hi185_0
                  have HC185_0 := Aside0.mk hl185_0
                  clear hi185_0 hl185_0
                  have HR185_1 := Aside0.mk hi185_1
                  have HC185_1 := Aside0.mk hl185_1
                  clear hi185_1 hl185_1
                  replace p185 := eq_true p185
                  replace q185 := eq_true q185
                  go_wp2_with (first | (go_at_call 100; (with_reducible refine (verditerref06_isSet.calls k1 _ _ ((rd_T53 l1 x5_1).f0) a0 true _ ?side1 ?side2 A9.out).mono ?_); (case side1 => repeat (first | exact HR185_0.out | (with_reducible refine Kd.C_alloc ?_ _) | (with_reducible refine Kd.C_drewN ?_ _) | (with_reducible refine Kd.C_drew ?_))); (case side2 => exact HC185_0.out); rintro e w' ⟨rfl, ⟨nd, rfl⟩⟩; (try first | exact ⟨rfl, _, World.drewN_drewN _ _ _⟩ | exact ⟨rfl, _, Eq.trans (World.drewN_drewN _ _ _) (congrArg (World.drewN _) (Nat.add_assoc _ _ _))⟩); have p187 : 0 ≤ (x5_1 : Int) := of_decide_eq_true (by first | (with_reducible assumption) | assumption); have q187 : x5_1 < (l1.length : Int) := of_decide_eq_true (by first | (with_reducible assumption) | assumption); obtain ⟨ad187, A187_0, c187_0, A187_1, c187_1, e187, hx187_0, hx187_1, hl187_0, hi187_0, hl187_1, hi187_1⟩ := at_T53 HR1.out x5_1 p187 q187; obtain rfl : ad185 = ad187 := (by injection e187); have HR187_0 := Aside0.mk hi187_0; have HC187_0 := Aside0.mk hl187_0; clear hi187_0 hl187_0; have HR187_1 := Aside0.mk hi187_1; have HC187_1 := Aside0.mk hl187_1; clear hi187_1 hl187_1; replace p187 := eq_true p187; replace q187 := eq_true q187; have ea_ := Option.some.inj (hx185_0.symm.trans hx187_0); injection ea_ with ea_ en_ ec_; subst ea_; subst ec_; clear en_; have ea_ := Option.some.inj (hx185_1.symm.trans hx187_1); injection ea_ with ea_ en_ ec_; subst ea_; subst ec_; clear en_) | (go_at_call 100; (with_reducible refine (verditerref06_isSet.calls k1 _ _ ((rd_T53 l1 x5_1).f1) a0 t188 _ ?side1 ?side2 A11.out).mono ?_); (case side1 => repeat (first | exact HR187_1.out | (with_reducible refine Kd.C_alloc ?_ _) | (with_reducible refine Kd.C_drewN ?_ _) | (with_reducible refine Kd.C_drew ?_))); (case side2 => exact HC187_1.out); rintro e w' ⟨rfl, ⟨nd, rfl⟩⟩; (try first | exact ⟨rfl, _, World.drewN_drewN _ _ _⟩ | exact ⟨rfl, _, Eq.trans (World.drewN_drewN _ _ _) (congrArg (World.drewN _) (Nat.add_assoc _ _ _))⟩)))
                  repeat (go_quiet (first | (go_at_call 100; (with_reducible refine (verditerref06_isSet.calls k1 _ _ ((rd_T53 l1 x5_1).f0) a0 true _ ?side1 ?side2 A9.out).mono ?_); (case side1 => repeat (first | exact HR185_0.out | (with_reducible refine Kd.C_alloc ?_ _) | (with_reducible refine Kd.C_drewN ?_ _) | (with_reducible refine Kd.C_drew ?_))); (case side2 => exact HC185_0.out); rintro e w' ⟨rfl, ⟨nd, rfl⟩⟩; (try first | exact ⟨rfl, _, World.drewN_drewN _ _ _⟩ | exact ⟨rfl, _, Eq.trans (World.drewN_drewN _ _ _) (congrArg (World.drewN _) (Nat.add_assoc _ _ _))⟩); have p187 : 0 ≤ (x5_1 : Int) := of_decide_eq_true (by first | (with_reducible assumption) | assumption); have q187 : x5_1 < (l1.length : Int) := of_decide_eq_true (by first | (with_reducible assumption) | assumption); obtain ⟨ad187, A187_0, c187_0, A187_1, c187_1, e187, hx187_0, hx187_1, hl187_0, hi187_0, hl187_1, hi187_1⟩ := at_T53 HR1.out x5_1 p187 q187; obtain rfl : ad185 = ad187 := (by injection e187); have HR187_0 := Aside0.mk hi187_0; have HC187_0 := Aside0.mk hl187_0; clear hi187_0 hl187_0; have HR187_1 := Aside0.mk hi187_1; have HC187_1 := Aside0.mk hl187_1; clear hi187_1 hl187_1; replace p187 := eq_true p187; replace q187 := eq_true q187; have ea_ := Option.some.inj (hx185_0.symm.trans hx187_0); injection ea_ with ea_ en_ ec_; subst ea_; subst ec_; clear en_; have ea_ := Option.some.inj (hx185_1.symm.trans hx187_1); injection ea_ with ea_ en_ ec_; subst ea_; subst ec_; clear en_) | (go_at_call 100; (with_reducible refine (verditerref06_isSet.calls k1 _ _ ((rd_T53 l1 x5_1).f1) a0 t188 _ ?side1 ?side2 A11.out).mono ?_); (case side1 => repeat (first | exact HR187_1.out | (with_reducible refine Kd.C_alloc ?_ _) | (with_reducible refine Kd.C_drewN ?_ _) | (with_reducible refine Kd.C_drew ?_))); (case side2 => exact HC187_1.out); rintro e w' ⟨rfl, ⟨nd, rfl⟩⟩; (try first | exact ⟨rfl, _, World.drewN_drewN _ _ _⟩ | exact ⟨rfl, _, Eq.trans (World.drewN_drewN _ _ _) (congrArg (World.drewN _) (Nat.add_assoc _ _ _))⟩))); try go_wp2_with (first | (go_at_call 100; (with_reducible refine (verditerref06_isSet.calls k1 _ _ ((rd_T53 l1 x5_1).f0) a0 true _ ?side1 ?side2 A9.out).mono ?_); (case side1 => repeat (first | exact HR185_0.out | (with_reducible refine Kd.C_alloc ?_ _) | (with_reducible refine Kd.C_drewN ?_ _) | (with_reducible refine Kd.C_drew ?_))); (case side2 => exact HC185_0.out); rintro e w' ⟨rfl, ⟨nd, rfl⟩⟩; (try first | exact ⟨rfl, _, World.drewN_drewN _ _ _⟩ | exact ⟨rfl, _, Eq.trans (World.drewN_drewN _ _ _) (congrArg (World.drewN _) (Nat.add_assoc _ _ _))⟩); have p187 : 0 ≤ (x5_1 : Int) := of_decide_eq_true (by first | (with_reducible assumption) | assumption); have q187 : x5_1 < (l1.length : Int) := of_decide_eq_true (by first | (with_reducible assumption) | assumption); obtain ⟨ad187, A187_0, c187_0, A187_1, c187_1, e187, hx187_0, hx187_1, hl187_0, hi187_0, hl187_1, hi187_1⟩ := at_T53 HR1.out x5_1 p187 q187; obtain rfl : ad185 = ad187 := (by injection e187); have HR187_0 := Aside0.mk hi187_0; have HC187_0 := Aside0.mk hl187_0; clear hi187_0 hl187_0; have HR187_1 := Aside0.mk hi187_1; have HC187_1 := Aside0.mk hl187_1; clear hi187_1 hl187_1; replace p187 := eq_true p187; replace q187 := eq_true q187; have ea_ := Option.some.inj (hx185_0.symm.trans hx187_0); injection ea_ with ea_ en_ ec_; subst ea_; subst ec_; clear en_; have ea_ := Option.some.inj (hx185_1.symm.trans hx187_1); injection ea_ with ea_ en_ ec_; subst ea_; subst ec_; clear en_) | (go_at_call 100; (with_reducible refine (verditerref06_isSet.calls k1 _ _ ((rd_T53 l1 x5_1).f1) a0 t188 _ ?side1 ?side2 A11.out).mono ?_); (case side1 => repeat (first | exact HR187_1.out | (with_reducible refine Kd.C_alloc ?_ _) | (with_reducible refine Kd.C_drewN ?_ _) | (with_reducible refine Kd.C_drew ?_))); (case side2 => exact HC187_1.out); rintro e w' ⟨rfl, ⟨nd, rfl⟩⟩; (try first | exact ⟨rfl, _, World.drewN_drewN _ _ _⟩ | exact ⟨rfl, _, Eq.trans (World.drewN_drewN _ _ _) (congrArg (World.drewN _) (Nat.add_assoc _ _ _))⟩))))
                  go_meet
                  case rel => exact ⟨_, (!t188), (by first | rfl | (simp; done) | (simp [*]; done)), H', ⟨by have := HK1.out; first | omega | exact Nat.le_refl _⟩, by repeat (first | exact Drawn0.refl _ | apply Drawn0.step)⟩
                · replace c10 := Bool.eq_false_iff.mpr c10
                  subst c10
                  have H1 : (verditerref06_Validate.j1 k1 a0 l1 x5_1 true) = some r := by rw [if_neg (show ¬ (false = true) by decide)] at H; exact H
                  clear H
                  have H := H1
                  clear H1
                  have H' := Aside0.mk H
                  clear H
                  have p185 : 0 ≤ (x5_1 : Int) := of_decide_eq_true (by first | (with_reducible assumption) | assumption)
                  have q185 : x5_1 < (l1.length : Int) := of_decide_eq_true (by first | (with_reducible assumption) | assumption)
                  obtain ⟨ad185, A185_0, c185_0, A185_1, c185_1, e185, hx185_0, hx185_1, hl185_0, hi185_0, hl185_1, hi185_1⟩ := at_T53 HR1.out x5_1 p185 q185
                  cases e185
                  have HR185_0 := Aside0.mk hi185_0
                  have HC185_0 := Aside0.mk hl185_0
                  clear hi185_0 hl185_0
                  have HR185_1 := Aside0.mk hi185_1
                  have HC185_1 := Aside0.mk hl185_1
                  clear hi185_1 hl185_1
                  replace p185 := eq_true p185
                  replace q185 := eq_true q185
                  go_wp2_with (first | (go_at_call 100; (with_reducible refine (verditerref06_isSet.calls k1 _ _ ((rd_T53 l1 x5_1).f0) a0 false _ ?side1 ?side2 A9.out).mono ?_); (case side1 => repeat (first | exact HR185_0.out | (with_reducible refine Kd.C_alloc ?_ _) | (with_reducible refine Kd.C_drewN ?_ _) | (with_reducible refine Kd.C_drew ?_))); (case side2 => exact HC185_0.out); rintro e w' ⟨rfl, ⟨nd, rfl⟩⟩; (try first | exact ⟨rfl, _, World.drewN_drewN _ _ _⟩ | exact ⟨rfl, _, Eq.trans (World.drewN_drewN _ _ _) (congrArg (World.drewN _) (Nat.add_assoc _ _ _))⟩)))
                  repeat (go_quiet (first | (go_at_call 100; (with_reducible refine (verditerref06_isSet.calls k1 _ _ ((rd_T53 l1 x5_1).f0) a0 false _ ?side1 ?side2 A9.out).mono ?_); (case side1 => repeat (first | exact HR185_0.out | (with_reducible refine Kd.C_alloc ?_ _) | (with_reducible refine Kd.C_drewN ?_ _) | (with_reducible refine Kd.C_drew ?_))); (case side2 => exact HC185_0.out); rintro e w' ⟨rfl, ⟨nd, rfl⟩⟩; (try first | exact ⟨rfl, _, World.drewN_drewN _ _ _⟩ | exact ⟨rfl, _, Eq.trans (World.drewN_drewN _ _ _) (congrArg (World.drewN _) (Nat.add_assoc _ _ _))⟩))); try go_wp2_with (first | (go_at_call 100; (with_reducible refine (verditerref06_isSet.calls k1 _ _ ((rd_T53 l1 x5_1).f0) a0 false _ ?side1 ?side2 A9.out).mono ?_); (case side1 => repeat (first | exact HR185_0.out | (with_reducible refine Kd.C_alloc ?_ _) | (with_reducible refine Kd.C_drewN ?_ _) | (with_reducible refine Kd.C_drew ?_))); (case side2 => exact HC185_0.out); rintro e w' ⟨rfl, ⟨nd, rfl⟩⟩; (try first | exact ⟨rfl, _, World.drewN_drewN _ _ _⟩ | exact ⟨rfl, _, Eq.trans (World.drewN_drewN _ _ _) (congrArg (World.drewN _) (Nat.add_assoc _ _ _))⟩))))
                  go_meet
                  case rel => exact ⟨_, (true), (by first | rfl | (simp; done) | (simp [*]; done)), H', ⟨by have := HK1.out; first | omega | exact Nat.le_refl _⟩, by repeat (first | exact Drawn0.refl _ | apply Drawn0.step)⟩
              · rw [if_neg c8] at H
                exact absurd H (by simp)
            case rest =>
              clear HC7
              try clear c1
              try clear p1
              try clear q1
              try clear hx1
              try clear p2
              try clear c4
              try clear c5
              try clear c5b0
              try clear c5b1
              try clear c6
              try clear c6b0
              try clear c8
              try clear c8b0
              try clear c10
              try clear hx185_0
              try clear hx185_1
              try clear hx187_0
              try clear hx187_1
              try clear p185
              try clear p187
              try clear p2
              try clear q185
              try clear q187
              obtain ⟨kq, x36_6, rfl, HA, HJ6, ⟨mc6, rfl⟩⟩ := hcut
              cases kq with
              | zero => exact absurd HA.out (by simp [verditerref06_Validate.j1])
              | succ kj6 =>
                have H := HA.out
                clear HA
                simp only [verditerref06_Validate.j1] at H
                by_cases c12 : x36_6 = true
                · subst c12
                  have H1 : (some 1) = some r := by rw [if_pos rfl] at H; exact H
                  clear H
                  have H := H1
                  clear H1
                  obtain rfl := Option.some.inj H
                  go_wp2
                  repeat (go_quiet (fail); try go_wp2)
                  go_ret
                  exact ⟨by first | rfl | (simp; done) | (simp [*]; done), by repeat (first | exact Drawn0.refl _ | apply Drawn0.step)⟩
                · replace c12 := Bool.eq_false_iff.mpr c12
                  subst c12
                  have H1 : (verditerref06_Validate.l1 kj6 a0 l1 x5_1 0) = some r := by rw [if_neg (show ¬ (false = true) by decide)] at H; exact H
                  clear H
                  have H := H1
                  clear H1
                  have H' := Aside0.mk H
                  clear H
                  go_wp2
                  repeat (go_quiet (fail); try go_wp2)
                  go_loopg [6] kj6 (fun kq v6 w' => ∃ (x6_3 : Int), v6 = .int .i64 x6_3 ∧ Aside0 (verditerref06_Validate.l1 kq a0 l1 x5_1 x6_3 = some r) ∧ Aside0 (kq ≤ kj6) ∧ Drawn0 w w')
                  case atStart => exact ⟨(0), (by first | rfl | (simp; done) | (simp [*]; done)), H', ⟨Nat.le_refl _⟩, by repeat (first | exact Drawn0.refl _ | apply Drawn0.step)⟩
                  case round =>
                    clear H'
                    try clear c1
                    try clear p1
                    try clear q1
                    try clear hx1
                    try clear p2
                    try clear c4
                    try clear c5
                    try clear c5b0
                    try clear c5b1
                    try clear c6
                    try clear c6b0
                    try clear c8
                    try clear c8b0
                    try clear c10
                    try clear c12
                    try clear hx185_0
                    try clear hx185_1
                    try clear hx187_0
                    try clear hx187_1
                    try clear p1
                    try clear p185
                    try clear p187
                    try clear p2
                    try clear q1
                    try clear q185
                    try clear q187
                    obtain ⟨x6_3, rfl, HA, HK3, ⟨m3, rfl⟩⟩ := hrel
                    cases gk with
                    | zero => exact absurd HA.out (by simp [verditerref06_Validate.l1])
                    | succ k3 =>
                      have H := HA.out
                      clear HA
                      simp only [verditerref06_Validate.l1] at H
                      by_cases c13 : 0 ≤ x5_1
                      · rw [if_pos c13] at H
                        have c13b0 : decide (0 ≤ x5_1) = true := decide_eq_true c13
                        clear c13
                        by_cases c14 : x5_1 < (l1.length : Int)
                        · rw [if_pos c14] at H
                          have c14b0 : decide (x5_1 < (l1.length : Int)) = true := decide_eq_true c14
                          clear c14
                          by_cases c15 : x6_3 < (((rd_T53 l1 x5_1).f0).length : Int)
                          · rw [if_pos c15] at H
                            have c15b0 : decide (x6_3 < (((rd_T53 l1 x5_1).f0).length : Int)) = true := decide_eq_true c15
                            clear c15
                            by_cases c16 : 0 ≤ x6_3
                            · rw [if_pos c16] at H
                              have c16b0 : decide (0 ≤ x6_3) = true := decide_eq_true c16
                              clear c16
                              replace H := Option.bind_eq_some_iff.mp H
                              obtain ⟨t193, A170, H⟩ := H
                              replace H : (if t193 = true then (some 6) else (verditerref06_Validate.l1 k3 a0 l1 x5_1 (wrap64 (x6_3 + 1)))) = some r := H
                              have A17 := Aside0.mk A170
                              clear A170
                              by_cases c18 : t193 = true
                              · subst c18
                                have H1 : (some 6) = some r := by rw [if_pos rfl] at H; exact H
                                clear H
                                have H := H1
                                clear H1
                                obtain rfl := Option.some.inj H
                                have p189 : 0 ≤ (x5_1 : Int) := of_decide_eq_true (by first | (with_reducible assumption) | assumption)
                                have q189 : x5_1 < (l1.length : Int) := of_decide_eq_true (by first | (with_reducible assumption) | assumption)
                                obtain ⟨ad189, A189_0, c189_0, A189_1, c189_1, e189, hx189_0, hx189_1, hl189_0, hi189_0, hl189_1, hi189_1⟩ := at_T53 HR1.out x5_1 p189 q189
                                cases e189
                                have HR189_0 := Aside0.mk hi189_0
                                have HC189_0 := Aside0.mk hl189_0
                                clear hi189_0 hl189_0
                                have HR189_1 := Aside0.mk hi189_1
                                have HC189_1 := Aside0.mk hl189_1
                                clear hi189_1 hl189_1
                                replace p189 := eq_true p189
                                replace q189 := eq_true q189
                                have p190 : 0 ≤ (x5_1 : Int) := of_decide_eq_true (by first | (with_reducible assumption) | assumption)
                                have q190 : x5_1 < (l1.length : Int) := of_decide_eq_true (by first | (with_reducible assumption) | assumption)
                                obtain ⟨ad190, A190_0, c190_0, A190_1, c190_1, e190, hx190_0, hx190_1, hl190_0, hi190_0, hl190_1, hi190_1⟩ := at_T53 HR1.out x5_1 p190 q190
                                obtain rfl : ad189 = ad190 := (by injection e190)
                                have HR190_0 := Aside0.mk hi190_0
                                have HC190_0 := Aside0.mk hl190_0
                                clear hi190_0 hl190_0
                                have HR190_1 := Aside0.mk hi190_1
                                have HC190_1 := Aside0.mk hl190_1
                                clear hi190_1 hl190_1
                                replace p190 := eq_true p190
                                replace q190 := eq_true q190
                                have ea_ := Option.some.inj (hx189_0.symm.trans hx190_0)
                                injection ea_ with ea_ en_ ec_
                                subst ea_
                                subst ec_
                                clear en_
                                have ea_ := Option.some.inj (hx189_1.symm.trans hx190_1)
                                injection ea_ with ea_ en_ ec_
                                subst ea_
                                subst ec_
                                clear en_
                                have p191 : 0 ≤ (x5_1 : Int) := of_decide_eq_true (by first | (with_reducible assumption) | assumption)
                                have q191 : x5_1 < (l1.length : Int) := of_decide_eq_true (by first | (with_reducible assumption) | assumption)
                                obtain ⟨ad191, A191_0, c191_0, A191_1, c191_1, e191, hx191_0, hx191_1, hl191_0, hi191_0, hl191_1, hi191_1⟩ := at_T53 HR1.out x5_1 p191 q191
                                obtain rfl : ad189 = ad191 := (by injection e191)
                                have HR191_0 := Aside0.mk hi191_0
                                have HC191_0 := Aside0.mk hl191_0
                                clear hi191_0 hl191_0
                                have HR191_1 := Aside0.mk hi191_1
                                have HC191_1 := Aside0.mk hl191_1
                                clear hi191_1 hl191_1
                                replace p191 := eq_true p191
                                replace q191 := eq_true q191
                                have ea_ := Option.some.inj (hx189_0.symm.trans hx191_0)
                                injection ea_ with ea_ en_ ec_
                                subst ea_
                                subst ec_
                                clear en_
                                have ea_ := Option.some.inj (hx189_1.symm.trans hx191_1)
                                injection ea_ with ea_ en_ ec_
                                subst ea_
                                subst ec_
                                clear en_
                                have p192 : 0 ≤ (x6_3 : Int) := of_decide_eq_true (by first | (with_reducible assumption) | assumption)
                                have q192 : x6_3 < (((rd_T53 l1 x5_1).f0).length : Int) := of_decide_eq_true (by first | (with_reducible assumption) | assumption)
                                obtain ⟨ad192, e192, hx192_0⟩ := Kd.at_int HR191_0.out x6_3 p192 q192
                                cases e192
                                replace p192 := eq_true p192
                                replace q192 := eq_true q192
                                go_wp2_with (first | (go_at_call 101; (with_reducible refine (verditerref06_has.calls k3 _ _ ((rd_T53 l1 x5_1).f1) (rd ((rd_T53 l1 x5_1).f0) x6_3) true _ ?side1 ?side2 A17.out).mono ?_); (case side1 => repeat (first | exact HR190_1.out | (with_reducible refine Kd.C_alloc ?_ _) | (with_reducible refine Kd.C_drewN ?_ _) | (with_reducible refine Kd.C_drew ?_))); (case side2 => exact HC190_1.out); rintro e w' ⟨rfl, ⟨nd, rfl⟩⟩; (try first | exact ⟨rfl, _, World.drewN_drewN _ _ _⟩ | exact ⟨rfl, _, Eq.trans (World.drewN_drewN _ _ _) (congrArg (World.drewN _) (Nat.add_assoc _ _ _))⟩)))
                                repeat (go_quiet (first | (go_at_call 101; (with_reducible refine (verditerref06_has.calls k3 _ _ ((rd_T53 l1 x5_1).f1) (rd ((rd_T53 l1 x5_1).f0) x6_3) true _ ?side1 ?side2 A17.out).mono ?_); (case side1 => repeat (first | exact HR190_1.out | (with_reducible refine Kd.C_alloc ?_ _) | (with_reducible refine Kd.C_drewN ?_ _) | (with_reducible refine Kd.C_drew ?_))); (case side2 => exact HC190_1.out); rintro e w' ⟨rfl, ⟨nd, rfl⟩⟩; (try first | exact ⟨rfl, _, World.drewN_drewN _ _ _⟩ | exact ⟨rfl, _, Eq.trans (World.drewN_drewN _ _ _) (congrArg (World.drewN _) (Nat.add_assoc _ _ _))⟩))); try go_wp2_with (first | (go_at_call 101; (with_reducible refine (verditerref06_has.calls k3 _ _ ((rd_T53 l1 x5_1).f1) (rd ((rd_T53 l1 x5_1).f0) x6_3) true _ ?side1 ?side2 A17.out).mono ?_); (case side1 => repeat (first | exact HR190_1.out | (with_reducible refine Kd.C_alloc ?_ _) | (with_reducible refine Kd.C_drewN ?_ _) | (with_reducible refine Kd.C_drew ?_))); (case side2 => exact HC190_1.out); rintro e w' ⟨rfl, ⟨nd, rfl⟩⟩; (try first | exact ⟨rfl, _, World.drewN_drewN _ _ _⟩ | exact ⟨rfl, _, Eq.trans (World.drewN_drewN _ _ _) (congrArg (World.drewN _) (Nat.add_assoc _ _ _))⟩))))
                                go_ret
                                exact ⟨by first | rfl | (simp; done) | (simp [*]; done), by repeat (first | exact Drawn0.refl _ | apply Drawn0.step)⟩
                              · replace c18 := Bool.eq_false_iff.mpr c18
                                subst c18
                                have H1 : (verditerref06_Validate.l1 k3 a0 l1 x5_1 (wrap64 (x6_3 + 1))) = some r := by rw [if_neg (show ¬ (false = true) by decide)] at H; exact H
                                clear H
                                have H := H1
                                clear H1
                                have H' := Aside0.mk H
                                clear H
                                have p189 : 0 ≤ (x5_1 : Int) := of_decide_eq_true (by first | (with_reducible assumption) | assumption)
                                have q189 : x5_1 < (l1.length : Int) := of_decide_eq_true (by first | (with_reducible assumption) | assumption)
                                obtain ⟨ad189, A189_0, c189_0, A189_1, c189_1, e189, hx189_0, hx189_1, hl189_0, hi189_0, hl189_1, hi189_1⟩ := at_T53 HR1.out x5_1 p189 q189
                                cases e189
                                have HR189_0 := Aside0.mk hi189_0
                                have HC189_0 := Aside0.mk hl189_0
                                clear hi189_0 hl189_0
                                have HR189_1 := Aside0.mk hi189_1
                                have HC189_1 := Aside0.mk hl189_1
                                clear hi189_1 hl189_1
                                replace p189 := eq_true p189
                                replace q189 := eq_true q189
                                have p190 : 0 ≤ (x5_1 : Int) := of_decide_eq_true (by first | (with_reducible assumption) | assumption)
                                have q190 : x5_1 < (l1.length : Int) := of_decide_eq_true (by first | (with_reducible assumption) | assumption)
                                obtain ⟨ad190, A190_0, c190_0, A190_1, c190_1, e190, hx190_0, hx190_1, hl190_0, hi190_0, hl190_1, hi190_1⟩ := at_T53 HR1.out x5_1 p190 q190
                                obtain rfl : ad189 = ad190 := (by injection e190)
                                have HR190_0 := Aside0.mk hi190_0
                                have HC190_0 := Aside0.mk hl190_0
                                clear hi190_0 hl190_0
                                have HR190_1 := Aside0.mk hi190_1
                                have HC190_1 := Aside0.mk hl190_1
                                clear hi190_1 hl190_1
                                replace p190 := eq_true p190
                                replace q190 := eq_true q190
                                have ea_ := Option.some.inj (hx189_0.symm.trans hx190_0)
                                injection ea_ with ea_ en_ ec_
                                subst ea_
                                subst ec_
                                clear en_
                                have ea_ := Option.some.inj (hx189_1.symm.trans hx190_1)
                                injection ea_ with ea_ en_ ec_
                                subst ea_
                                subst ec_
                                clear en_
                                have p191 : 0 ≤ (x5_1 : Int) := of_decide_eq_true (by first | (with_reducible assumption) | assumption)
                                have q191 : x5_1 < (l1.length : Int) := of_decide_eq_true (by first | (with_reducible assumption) | assumption)
                                obtain ⟨ad191, A191_0, c191_0, A191_1, c191_1, e191, hx191_0, hx191_1, hl191_0, hi191_0, hl191_1, hi191_1⟩ := at_T53 HR1.out x5_1 p191 q191
                                obtain rfl : ad189 = ad191 := (by injection e191)
                                have HR191_0 := Aside0.mk hi191_0
                                have HC191_0 := Aside0.mk hl191_0
                                clear hi191_0 hl191_0
                                have HR191_1 := Aside0.mk hi191_1
                                have HC191_1 := Aside0.mk hl191_1
                                clear hi191_1 hl191_1
                                replace p191 := eq_true p191
                                replace q191 := eq_true q191
                                have ea_ := Option.some.inj (hx189_0.symm.trans hx191_0)
                                injection ea_ with ea_ en_ ec_
                                subst ea_
                                subst ec_
                                clear en_
                                have ea_ := Option.some.inj (hx189_1.symm.trans hx191_1)
                                injection ea_ with ea_ en_ ec_
                                subst ea_
                                subst ec_
                                clear en_
                                have p192 : 0 ≤ (x6_3 : Int) := of_decide_eq_true (by first | (with_reducible assumption) | assumption)
                                have q192 : x6_3 < (((rd_T53 l1 x5_1).f0).length : Int) := of_decide_eq_true (by first | (with_reducible assumption) | assumption)
                                obtain ⟨ad192, e192, hx192_0⟩ := Kd.at_int HR191_0.out x6_3 p192 q192
                                cases e192
                                replace p192 := eq_true p192
                                replace q192 := eq_true q192
                                go_wp2_with (first | (go_at_call 101; (with_reducible refine (verditerref06_has.calls k3 _ _ ((rd_T53 l1 x5_1).f1) (rd ((rd_T53 l1 x5_1).f0) x6_3) false _ ?side1 ?side2 A17.out).mono ?_); (case side1 => repeat (first | exact HR190_1.out | (with_reducible refine Kd.C_alloc ?_ _) | (with_reducible refine Kd.C_drewN ?_ _) | (with_reducible refine Kd.C_drew ?_))); (case side2 => exact HC190_1.out); rintro e w' ⟨rfl, ⟨nd, rfl⟩⟩; (try first | exact ⟨rfl, _, World.drewN_drewN _ _ _⟩ | exact ⟨rfl, _, Eq.trans (World.drewN_drewN _ _ _) (congrArg (World.drewN _) (Nat.add_assoc _ _ _))⟩)))
                                repeat (go_quiet (first | (go_at_call 101; (with_reducible refine (verditerref06_has.calls k3 _ _ ((rd_T53 l1 x5_1).f1) (rd ((rd_T53 l1 x5_1).f0) x6_3) false _ ?side1 ?side2 A17.out).mono ?_); (case side1 => repeat (first | exact HR190_1.out | (with_reducible refine Kd.C_alloc ?_ _) | (with_reducible refine Kd.C_drewN ?_ _) | (with_reducible refine Kd.C_drew ?_))); (case side2 => exact HC190_1.out); rintro e w' ⟨rfl, ⟨nd, rfl⟩⟩; (try first | exact ⟨rfl, _, World.drewN_drewN _ _ _⟩ | exact ⟨rfl, _, Eq.trans (World.drewN_drewN _ _ _) (congrArg (World.drewN _) (Nat.add_assoc _ _ _))⟩))); try go_wp2_with (first | (go_at_call 101; (with_reducible refine (verditerref06_has.calls k3 _ _ ((rd_T53 l1 x5_1).f1) (rd ((rd_T53 l1 x5_1).f0) x6_3) false _ ?side1 ?side2 A17.out).mono ?_); (case side1 => repeat (first | exact HR190_1.out | (with_reducible refine Kd.C_alloc ?_ _) | (with_reducible refine Kd.C_drewN ?_ _) | (with_reducible refine Kd.C_drew ?_))); (case side2 => exact HC190_1.out); rintro e w' ⟨rfl, ⟨nd, rfl⟩⟩; (try first | exact ⟨rfl, _, World.drewN_drewN _ _ _⟩ | exact ⟨rfl, _, Eq.trans (World.drewN_drewN _ _ _) (congrArg (World.drewN _) (Nat.add_assoc _ _ _))⟩))))
                                go_roundg k3
                                case measure => have := HK1.out; have := HJ6.out; have := HK3.out; omega
                                case rel => exact ⟨(wrap64 (x6_3 + 1)), (by first | rfl | (simp; done) | (simp [*]; done)), H', ⟨by have := HK1.out; have := HJ6.out; have := HK3.out; omega⟩, by repeat (first | exact Drawn0.refl _ | apply Drawn0.step)⟩
                            · rw [if_neg c16] at H
                              exact absurd H (by simp)
                          · rw [if_neg c15] at H
                            have c15b0 : decide (x6_3 < (((rd_T53 l1 x5_1).f0).length : Int)) = false := decide_eq_false c15
                            clear c15
                            by_cases c19 : (((rd_T53 l1 x5_1).f0).length : Int) = (((rd_T53 l1 x5_1).f1).length : Int)
                            · rw [if_pos c19] at H
                              have c19b0 : ((((rd_T53 l1 x5_1).f0).length : Int) == (((rd_T53 l1 x5_1).f1).length : Int)) = true := beq_iff_eq.mpr c19
                              have c19b1 : ((((rd_T53 l1 x5_1).f0).length : Int) != (((rd_T53 l1 x5_1).f1).length : Int)) = false := bne_eq_false_iff_eq.mpr c19
                              have c19b2 : (((rd_T53 l1 x5_1).f0).length == ((rd_T53 l1 x5_1).f1).length) = true := by first | simpa using c19 | (simp at c19 ⊢; omega)
                              clear c19
                              have H' := Aside0.mk H
                              clear H
                              have p189 : 0 ≤ (x5_1 : Int) := of_decide_eq_true (by first | (with_reducible assumption) | assumption)
                              have q189 : x5_1 < (l1.length : Int) := of_decide_eq_true (by first | (with_reducible assumption) | assumption)
                              obtain ⟨ad189, A189_0, c189_0, A189_1, c189_1, e189, hx189_0, hx189_1, hl189_0, hi189_0, hl189_1, hi189_1⟩ := at_T53 HR1.out x5_1 p189 q189
                              cases e189
                              have HR189_0 := Aside0.mk hi189_0
                              have HC189_0 := Aside0.mk hl189_0
                              clear hi189_0 hl189_0
                              have HR189_1 := Aside0.mk hi189_1
                              have HC189_1 := Aside0.mk hl189_1
                              clear hi189_1 hl189_1
                              replace p189 := eq_true p189
                              replace q189 := eq_true q189
                              have p194 : 0 ≤ (x5_1 : Int) := of_decide_eq_true (by first | (with_reducible assumption) | assumption)
                              have q194 : x5_1 < (l1.length : Int) := of_decide_eq_true (by first | (with_reducible assumption) | assumption)
                              obtain ⟨ad194, A194_0, c194_0, A194_1, c194_1, e194, hx194_0, hx194_1, hl194_0, hi194_0, hl194_1, hi194_1⟩ := at_T53 HR1.out x5_1 p194 q194
                              obtain rfl : ad189 = ad194 := (by injection e194)
                              have HR194_0 := Aside0.mk hi194_0
                              have HC194_0 := Aside0.mk hl194_0
                              clear hi194_0 hl194_0
                              have HR194_1 := Aside0.mk hi194_1
                              have HC194_1 := Aside0.mk hl194_1
                              clear hi194_1 hl194_1
                              replace p194 := eq_true p194
                              replace q194 := eq_true q194
                              have ea_ := Option.some.inj (hx189_0.symm.trans hx194_0)
                              injection ea_ with ea_ en_ ec_
                              subst ea_
                              subst ec_
                              clear en_
                              have ea_ := Option.some.inj (hx189_1.symm.trans hx194_1)
                              injection ea_ with ea_ en_ ec_
                              subst ea_
                              subst ec_
                              clear en_
                              have p195 : 0 ≤ (x5_1 : Int) := of_decide_eq_true (by first | (with_reducible assumption) | assumption)
                              have q195 : x5_1 < (l1.length : Int) := of_decide_eq_true (by first | (with_reducible assumption) | assumption)
                              obtain ⟨ad195, A195_0, c195_0, A195_1, c195_1, e195, hx195_0, hx195_1, hl195_0, hi195_0, hl195_1, hi195_1⟩ := at_T53 HR1.out x5_1 p195 q195
                              obtain rfl : ad189 = ad195 := (by injection e195)
                              have HR195_0 := Aside0.mk hi195_0
                              have HC195_0 := Aside0.mk hl195_0
                              clear hi195_0 hl195_0
                              have HR195_1 := Aside0.mk hi195_1
                              have HC195_1 := Aside0.mk hl195_1
                              clear hi195_1 hl195_1
                              replace p195 := eq_true p195
                              replace q195 := eq_true q195
                              have ea_ := Option.some.inj (hx189_0.symm.trans hx195_0)
                              injection ea_ with ea_ en_ ec_
                              subst ea_
                              subst ec_
                              clear en_
                              have ea_ := Option.some.inj (hx189_1.symm.trans hx195_1)
                              injection ea_ with ea_ en_ ec_
                              subst ea_
                              subst ec_
                              clear en_
                              go_wp2
                              repeat (go_quiet (fail); try go_wp2)
                              go_roundg k3
                              case measure => have := HK1.out; have := HJ6.out; have := HK3.out; omega
                              case rel => exact ⟨(wrap64 (x5_1 + 1)), (by first | rfl | (simp; done) | (simp [*]; done)), H', ⟨by have := HK1.out; have := HJ6.out; have := HK3.out; omega⟩, by repeat (first | exact Drawn0.refl _ | apply Drawn0.step)⟩
                            · rw [if_neg c19] at H
                              have c19b0 : ((((rd_T53 l1 x5_1).f0).length : Int) == (((rd_T53 l1 x5_1).f1).length : Int)) = false := beq_eq_false_iff_ne.mpr c19
                              have c19b1 : ((((rd_T53 l1 x5_1).f0).length : Int) != (((rd_T53 l1 x5_1).f1).length : Int)) = true := bne_iff_ne.mpr c19
                              have c19b2 : (((rd_T53 l1 x5_1).f0).length == ((rd_T53 l1 x5_1).f1).length) = false := by first | simpa using c19 | (simp at c19 ⊢; omega)
                              obtain rfl := Option.some.inj H
                              have p189 : 0 ≤ (x5_1 : Int) := of_decide_eq_true (by first | (with_reducible assumption) | assumption)
                              have q189 : x5_1 < (l1.length : Int) := of_decide_eq_true (by first | (with_reducible assumption) | assumption)
                              obtain ⟨ad189, A189_0, c189_0, A189_1, c189_1, e189, hx189_0, hx189_1, hl189_0, hi189_0, hl189_1, hi189_1⟩ := at_T53 HR1.out x5_1 p189 q189
                              cases e189
                              have HR189_0 := Aside0.mk hi189_0
                              have HC189_0 := Aside0.mk hl189_0
                              clear hi189_0 hl189_0
                              have HR189_1 := Aside0.mk hi189_1
                              have HC189_1 := Aside0.mk hl189_1
                              clear hi189_1 hl189_1
                              replace p189 := eq_true p189
                              replace q189 := eq_true q189
                              have p194 : 0 ≤ (x5_1 : Int) := of_decide_eq_true (by first | (with_reducible assumption) | assumption)
                              have q194 : x5_1 < (l1.length : Int) := of_decide_eq_true (by first | (with_reducible assumption) | assumption)
                              obtain ⟨ad194, A194_0, c194_0, A194_1, c194_1, e194, hx194_0, hx194_1, hl194_0, hi194_0, hl194_1, hi194_1⟩ := at_T53 HR1.out x5_1 p194 q194
                              obtain rfl : ad189 = ad194 := (by injection e194)
                              have HR194_0 := Aside0.mk hi194_0
                              have HC194_0 := Aside0.mk hl194_0
                              clear hi194_0 hl194_0
                              have HR194_1 := Aside0.mk hi194_1
                              have HC194_1 := Aside0.mk hl194_1
                              clear hi194_1 hl194_1
                              replace p194 := eq_true p194
                              replace q194 := eq_true q194
                              have ea_ := Option.some.inj (hx189_0.symm.trans hx194_0)
                              injection ea_ with ea_ en_ ec_
                              subst ea_
                              subst ec_
                              clear en_
                              have ea_ := Option.some.inj (hx189_1.symm.trans hx194_1)
                              injection ea_ with ea_ en_ ec_
                              subst ea_
                              subst ec_
                              clear en_
                              have p195 : 0 ≤ (x5_1 : Int) := of_decide_eq_true (by first | (with_reducible assumption) | assumption)
                              have q195 : x5_1 < (l1.length : Int) := of_decide_eq_true (by first | (with_reducible assumption) | assumption)
                              obtain ⟨ad195, A195_0, c195_0, A195_1, c195_1, e195, hx195_0, hx195_1, hl195_0, hi195_0, hl195_1, hi195_1⟩ := at_T53 HR1.out x5_1 p195 q195
                              obtain rfl : ad189 = ad195 := (by injection e195)
                              have HR195_0 := Aside0.mk hi195_0
                              have HC195_0 := Aside0.mk hl195_0
                              clear hi195_0 hl195_0
                              have HR195_1 := Aside0.mk hi195_1
                              have HC195_1 := Aside0.mk hl195_1
                              clear hi195_1 hl195_1
                              replace p195 := eq_true p195
                              replace q195 := eq_true q195
                              have ea_ := Option.some.inj (hx189_0.symm.trans hx195_0)
                              injection ea_ with ea_ en_ ec_
                              subst ea_
                              subst ec_
                              clear en_
                              have ea_ := Option.some.inj (hx189_1.symm.trans hx195_1)
                              injection ea_ with ea_ en_ ec_
                              subst ea_
                              subst ec_
                              clear en_
                              go_wp2
                              repeat (go_quiet (fail); try go_wp2)
                              go_ret
                              exact ⟨by first | rfl | (simp; done) | (simp [*]; done), by repeat (first | exact Drawn0.refl _ | apply Drawn0.step)⟩
                        · rw [if_neg c14] at H
                          exact absurd H (by simp)
                      · rw [if_neg c13] at H
                        exact absurd H (by simp)
          · rw [if_neg c6] at H
            have c6b0 : decide (x5_1 < (l1.length : Int)) = false := decide_eq_false c6
            clear c6
            obtain rfl := Option.some.inj H
            go_wp2
            repeat (go_quiet (fail); try go_wp2)
            go_ret
            exact ⟨by first | rfl | (simp; done) | (simp [*]; done), by repeat (first | exact Drawn0.refl _ | apply Drawn0.step)⟩
  · replace c4 := Bool.eq_false_iff.mpr c4
    subst c4
    have H1 : (some 1) = some r := by rw [if_neg (show ¬ (false = true) by decide)] at H; exact H
    clear H
    have H := H1
    clear H1
    obtain rfl := Option.some.inj H
    go_enter Try.func59, Try.ntmps59
    go_wp2_with (first | (go_at_call 82; (with_reducible refine (verditerref06_within.calls a0 1 13 false _ A3.out).mono ?_); rintro e w' ⟨rfl, ⟨nd, rfl⟩⟩; (try first | exact ⟨rfl, _, World.drewN_drewN _ _ _⟩ | exact ⟨rfl, _, Eq.trans (World.drewN_drewN _ _ _) (congrArg (World.drewN _) (Nat.add_assoc _ _ _))⟩)))
    repeat (go_quiet (first | (go_at_call 82; (with_reducible refine (verditerref06_within.calls a0 1 13 false _ A3.out).mono ?_); rintro e w' ⟨rfl, ⟨nd, rfl⟩⟩; (try first | exact ⟨rfl, _, World.drewN_drewN _ _ _⟩ | exact ⟨rfl, _, Eq.trans (World.drewN_drewN _ _ _) (congrArg (World.drewN _) (Nat.add_assoc _ _ _))⟩))); try go_wp2_with (first | (go_at_call 82; (with_reducible refine (verditerref06_within.calls a0 1 13 false _ A3.out).mono ?_); rintro e w' ⟨rfl, ⟨nd, rfl⟩⟩; (try first | exact ⟨rfl, _, World.drewN_drewN _ _ _⟩ | exact ⟨rfl, _, Eq.trans (World.drewN_drewN _ _ _) (congrArg (World.drewN _) (Nat.add_assoc _ _ _))⟩))))
    go_ret
    exact ⟨by first | rfl | (simp; done) | (simp [*]; done), by repeat (first | exact Drawn0.refl _ | apply Drawn0.step)⟩

end Go.Proofs.Ytdbeochifofdoaa.X
end

section
/-! The document's Validate is the program's. -/
namespace Go.Proofs.Ytdbeochifofdoaa.X
open Go.RowKit Go.Proofs.YtdbeochifofdoaaW.PrintWords Go.Proofs.YtdbeochifofdoaaW.PrintLast
set_option linter.unusedVariables false
set_option linter.unusedSimpArgs false

theorem val_l1 (lots : Int) (l : List S53) (i : Nat) (hi : i < l.length) (hm : l.length < 9223372036854775807) (hs : ∀ y, y ∈ l → y.f0.length ≤ 50 ∧ y.f1.length ≤ 50) (K : Nat) (r : Int)
    (hc : ∀ k, K ≤ k → verditerref06_Validate.l0 k lots l ((i + 1 : Nat) : Int) = some r) :
    ∀ (d j k : Nat), j ≤ (l.getD i z53).f0.length → (l.getD i z53).f0.length - j = d → K + d + 60 ≤ k →
      verditerref06_Validate.l1 k lots l i j = some (if ((l.getD i z53).f0.drop j).any (fun n => (l.getD i z53).f1.contains n) = true then 6 else if (l.getD i z53).f0.length = (l.getD i z53).f1.length then r else 5)
  | 0, j, k + 1, h1, h2, h3 => by
    unfold verditerref06_Validate.l1
    rw [if_pos (by omega), if_pos (by omega), show rd_T53 l (i : Int) = l.getD i z53 from rfl, if_neg (by omega), List.drop_eq_nil_of_le (by omega), wrs i (by omega), hc k (by omega)]
    by_cases he : (l.getD i z53).f0.length = (l.getD i z53).f1.length
    · rw [if_pos (by omega), List.any_nil, if_neg (by simp), if_pos he]
    · rw [if_neg (by omega), List.any_nil, if_neg (by simp), if_neg he]
  | d + 1, j, k + 1, h1, h2, h3 => by
    have hb := hs _ (mem_getD z53 l i hi)
    unfold verditerref06_Validate.l1
    have ih := val_l1 lots l i hi hm hs K r hc d (j + 1) k (by omega) (by omega) (by omega)
    rw [if_pos (by omega), if_pos (by omega), show rd_T53 l (i : Int) = l.getD i z53 from rfl, if_pos (by omega), if_pos (by omega), rd_nat, has_f _ _ k (by omega) (by omega), wrs j (by omega), ih, dropD 0 (l.getD i z53).f0 j (by omega), List.any_cons, Option.bind_some]
    cases hq : (l.getD i z53).f1.contains ((l.getD i z53).f0.getD j 0) with
    | true => rw [if_pos rfl, Bool.true_or, if_pos rfl]
    | false => rw [if_neg (by simp), Bool.false_or]
theorem val_l0 (lots : Int) (hl : 1 ≤ lots ∧ lots ≤ 13) (l : List S53) (hm : l.length < 9223372036854775807) (hs : ∀ y, y ∈ l → y.f0.length ≤ 50 ∧ y.f1.length ≤ 50) :
    ∀ (d i k : Nat), i ≤ l.length → l.length - i = d → 200 * (d + 1) ≤ k → verditerref06_Validate.l0 k lots l i = some (vErr lots (l.drop i))
  | 0, i, k + 1, h1, h2, h3 => by
    unfold verditerref06_Validate.l0
    rw [if_neg (by omega), List.drop_eq_nil_of_le (by omega)]
    rfl
  | d + 1, i, k + 2, h1, h2, h3 => by
    have hb := hs _ (mem_getD z53 l i (by omega))
    have hv : vErr lots (l.drop i) = if wErr lots (l.getD i z53) = 0 then vErr lots (l.drop (i + 1)) else wErr lots (l.getD i z53) := by rw [dropD z53 l i (by omega)]; rfl
    have hc : ∀ k, 200 * (d + 1) ≤ k → verditerref06_Validate.l0 k lots l ((i + 1 : Nat) : Int) = some (vErr lots (l.drop (i + 1))) := fun k hk => val_l0 lots hl l hm hs d (i + 1) k (by omega) (by omega) hk
    have h1' := val_l1 lots l i (by omega) hm hs (200 * (d + 1)) _ hc (l.getD i z53).f0.length 0 k (by omega) (by omega) (by omega)
    have hj : ∀ b, verditerref06_Validate.j1 (k + 1) lots l i b = if b = true then some 1 else verditerref06_Validate.l1 k lots l i 0 := fun b => by unfold verditerref06_Validate.j1; rfl
    unfold verditerref06_Validate.l0
    rw [if_pos (by omega), if_pos (by omega), show rd_T53 l (i : Int) = l.getD i z53 from rfl]
    simp only [verditerref06_isSet.f, if_pos hl, Option.bind_some, hj]
    rw [show ((0 : Nat) : Int) = 0 from rfl] at h1'
    rw [h1', hv]
    unfold wErr
    cases isSetB lots (l.getD i z53).f0 <;> cases isSetB lots (l.getD i z53).f1 <;> simp <;> (split <;> simp_all)
theorem refValidate_f (lots : Int) (l : List S53) (hm : l.length < 9223372036854775807) (hs : ∀ y, y ∈ l → y.f0.length ≤ 50 ∧ y.f1.length ≤ 50) (k : Nat) (hk : 800 ≤ k) : verditerref06_Validate.f k lots l = some (pErr lots l) := by
  unfold verditerref06_Validate.f pErr
  rw [rwithin_b, Option.bind_some]
  by_cases hl : 1 ≤ lots ∧ lots ≤ 13
  · have hb : (decide (1 ≤ lots) && decide (lots ≤ 13)) = true := by simp [hl]
    rw [if_pos hb, if_pos hl]
    by_cases h3 : 3 < l.length
    · rw [if_pos (by omega), if_pos h3]
    · rw [if_neg (by omega), if_neg h3]
      exact val_l0 lots hl l hm hs l.length 0 k (by omega) (by omega) (by omega)
  · have hb : ¬ (decide (1 ≤ lots) && decide (lots ≤ 13)) = true := by simpa using hl
    rw [if_neg hb, if_neg hl]
end Go.Proofs.Ytdbeochifofdoaa.X
end

section
-- Written by a program of this session (wip/hook.py, which runs the kit's print.py with contracts proved by hand). Not trusted: Lean checks it.
namespace Go.Proofs.Ytdbeochifofdoaa.X
open Go.RowKit Go.Proofs.YtdbeochifofdoaaW.PrintWords Go.Proofs.YtdbeochifofdoaaW.PrintLast Go.Proofs.YtdbeochifofdoaaW.PrintMore
attribute [local go_sem] max2_int min2_int max_two min_two max_three min_three max_four min_four   -- for this text's walks alone
set_option linter.unusedVariables false
set_option linter.unusedSimpArgs false

/-! ### verditerref06_Tells: function 32 -/
def verditerref06_Tells.f (k : Nat) (a0 : Int) (l1 : List (S53)) : Option (Bool × Int) := (verditerref06_Validate.f k a0 l1).bind fun t234 => (if t234 = 0 then ((verditerref06_tells.f k a0 l1).bind fun t235 => (some (t235, 0))) else (some (false, t234)))
theorem verditerref06_Tells.mono : ∀ a0 a1 k, LeO (verditerref06_Tells.f k a0 a1) (verditerref06_Tells.f (k + 1) a0 a1) := by
  intro a0 a1 k
  unfold verditerref06_Tells.f
  repeat' first
      | (with_reducible exact verditerref06_Validate.mono _ _ _)
      | (with_reducible exact verditerref06_tells.mono _ _ _)
      | (with_reducible exact LeO.refl _)
      | (with_reducible exact LeO.none _)
      | (with_reducible refine LeO.ite ?_ ?_)
      | (with_reducible refine LeO.bind ?_ (fun _ => ?_))
      | exact verditerref06_Validate.mono _ _ _
      | exact verditerref06_tells.mono _ _ _
      | exact LeO.none _
      | refine LeO.ite ?_ ?_
      | refine LeO.bind ?_ (fun _ => ?_)
set_option maxHeartbeats 8000000 in
set_option maxRecDepth 100000 in
theorem verditerref06_Tells.calls (k : Nat) (a0 : Int) (A1 : Option Addr) (c1 : Nat) (l1 : List (S53)) (r1 : Bool) (r2 : Int) (w : World) (hr1 : Kd.C k53 w A1 l1.length l1) (hc1 : l1.length ≤ c1) (h : verditerref06_Tells.f k a0 l1 = some (r1, r2)) :
    Calls Try.prog 32 #[.int .i64 a0, .slice A1 l1.length c1] w fun e w' => e = .returned (.tuple #[.bool r1, .int .i64 r2]) ∧ Below w.heap.size w w' := by
  have HR1 := Aside0.mk hr1
  have HC1 := Aside0.mk hc1
  clear hr1 hc1
  have HB := Aside0.mk (Below.refl w.heap.size w)
  have H : ((verditerref06_Validate.f k a0 l1).bind fun t234 => (if t234 = 0 then ((verditerref06_tells.f k a0 l1).bind fun t235 => (some (t235, 0))) else (some (false, t234)))) = some (r1, r2) := h
  clear h
  replace H := Option.bind_eq_some_iff.mp H
  obtain ⟨t234, A30, H⟩ := H
  replace H : (if t234 = 0 then ((verditerref06_tells.f k a0 l1).bind fun t235 => (some (t235, 0))) else (some (false, t234))) = some (r1, r2) := H
  have A3 := Aside0.mk A30
  clear A30
  by_cases c4 : t234 = 0
  · rw [if_pos c4] at H
    have c4b0 : (t234 == 0) = true := beq_iff_eq.mpr c4
    have c4b1 : (t234 != 0) = false := bne_eq_false_iff_eq.mpr c4
    clear c4
    replace H := Option.bind_eq_some_iff.mp H
    obtain ⟨t235, A50, H⟩ := H
    replace H : (some (t235, 0)) = some (r1, r2) := H
    have A5 := Aside0.mk A50
    clear A50
    simp only [Option.some.injEq, Prod.mk.injEq] at H
    obtain ⟨rfl, rfl⟩ := H
    go_enter Try.func32, Try.ntmps32
    go_wp2_with (first | ((with_reducible refine gate_callee (f := 59) rfl ?_); refine goesL_ (some 9) rfl rfl Try.func59 (by kernel_rfl) rfl #[.int .i64 a0, .slice A1 l1.length c1] rfl (by (try simp only [List.map_toArray, List.map_cons, List.map_nil]); first | done | rfl | (simp only [List.length_drop, List.length_take]; rfl)) ?_; (with_reducible refine (verditerref06_Validate.calls k a0 _ _ l1 t234 _ ?side1 ?side2 A3.out).mono ?_); (case side1 => repeat (first | exact HR1.out | (with_reducible refine Kd.C_alloc ?_ _) | (with_reducible refine Kd.C_drewN ?_ _) | (with_reducible refine Kd.C_drew ?_))); (case side2 => exact HC1.out); rintro e w' ⟨rfl, ⟨nd, rfl⟩⟩; refine ⟨_, rfl, ?_⟩) | ((with_reducible refine gate_callee (f := 62) rfl ?_); refine goesL_ (some 15) rfl rfl Try.func62 (by kernel_rfl) rfl #[.int .i64 a0, .slice A1 l1.length c1] rfl (by (try simp only [List.map_toArray, List.map_cons, List.map_nil]); first | done | rfl | (simp only [List.length_drop, List.length_take]; rfl)) ?_; (with_reducible refine (verditerref06_tells.calls k a0 _ _ l1 t235 _ ?side1 ?side2 A5.out).mono ?_); (case side1 => repeat (first | exact HR1.out | (with_reducible refine Kd.C_alloc ?_ _) | (with_reducible refine Kd.C_drewN ?_ _) | (with_reducible refine Kd.C_drew ?_))); (case side2 => exact HC1.out); rintro e w6 ⟨rfl, hb⟩; refine ⟨_, rfl, ?_⟩; have n0_ := Aside0.mk (below_step (by repeat (first | (with_reducible first | exact HB.out | apply below_alloc | apply pw_below_drewN | apply below_drew1) | exact HB.out)) hb); clear HB; have HB := n0_; clear n0_; (try clear hb); (try clear hb2); (try clear hk); (try clear hi)))
    go_ret2
    exact ⟨by first | rfl | (simp [errW_none, errW_some] <;> rfl) | (simp [*, errW_none, errW_some] <;> rfl), by repeat (first | (with_reducible first | exact HB.out | apply below_alloc | apply pw_below_drewN | apply below_drew1) | exact HB.out)⟩
  · rw [if_neg c4] at H
    have c4b0 : (t234 == 0) = false := beq_eq_false_iff_ne.mpr c4
    have c4b1 : (t234 != 0) = true := bne_iff_ne.mpr c4
    simp only [Option.some.injEq, Prod.mk.injEq] at H
    obtain ⟨rfl, rfl⟩ := H
    go_enter Try.func32, Try.ntmps32
    go_wp2_with (first | ((with_reducible refine gate_callee (f := 59) rfl ?_); refine goesL_ (some 9) rfl rfl Try.func59 (by kernel_rfl) rfl #[.int .i64 a0, .slice A1 l1.length c1] rfl (by (try simp only [List.map_toArray, List.map_cons, List.map_nil]); first | done | rfl | (simp only [List.length_drop, List.length_take]; rfl)) ?_; (with_reducible refine (verditerref06_Validate.calls k a0 _ _ l1 t234 _ ?side1 ?side2 A3.out).mono ?_); (case side1 => repeat (first | exact HR1.out | (with_reducible refine Kd.C_alloc ?_ _) | (with_reducible refine Kd.C_drewN ?_ _) | (with_reducible refine Kd.C_drew ?_))); (case side2 => exact HC1.out); rintro e w' ⟨rfl, ⟨nd, rfl⟩⟩; refine ⟨_, rfl, ?_⟩))
    go_ret2
    exact ⟨by first | rfl | (simp [errW_none, errW_some] <;> rfl) | (simp [*, errW_none, errW_some] <;> rfl), by repeat (first | (with_reducible first | exact HB.out | apply below_alloc | apply pw_below_drewN | apply below_drew1) | exact HB.out)⟩

end Go.Proofs.Ytdbeochifofdoaa.X
end

section
/-! Long; the document's tells. -/
namespace Go.Proofs.Ytdbeochifofdoaa.X
open Go.RowKit Go.Proofs.YtdbeochifofdoaaW.PrintWords Go.Proofs.YtdbeochifofdoaaW.PrintLast
set_option linter.unusedVariables false
set_option linter.unusedSimpArgs false

/-- Has a weighing a long list? -/
def longW (y : S53) : Bool := decide (50 < y.f0.length) || decide (50 < y.f1.length)
def longB (l : List S53) : Bool := decide (50 < l.length) || l.any longW
theorem long_l0 (l : List S53) (hm : l.length < 9223372036854775807) : ∀ (d k i : Nat), i ≤ l.length → l.length - i = d → d < k → verditerlaw06_Long.l0 k l i = some ((l.drop i).any longW)
  | 0, k + 1, i, h1, h2, _ => by
    unfold verditerlaw06_Long.l0
    rw [if_neg (by omega), List.drop_eq_nil_of_le (by omega)]
    rfl
  | d + 1, k + 1, i, h1, h2, h3 => by
    unfold verditerlaw06_Long.l0
    rw [if_pos (by omega), if_pos (by omega), show rd_T53 l (i : Int) = l.getD i z53 from rfl, dropD z53 l i (by omega), List.any_cons, wrs i (by omega)]
    have ih := long_l0 l hm d k (i + 1) (by omega) (by omega) (by omega)
    generalize l.getD i z53 = y
    unfold longW
    by_cases ha : 50 < y.f0.length
    · rw [if_pos (by omega), decide_eq_true ha]; rfl
    · rw [if_neg (by omega), decide_eq_false ha]
      by_cases hb : 50 < y.f1.length
      · rw [if_pos (by omega), decide_eq_true hb]; rfl
      · rw [if_neg (by omega), decide_eq_false hb, ih]; rfl
theorem long_f (l : List S53) (hm : l.length < 9223372036854775807) (k : Nat) (hk : 51 < k) : verditerlaw06_Long.f k l = some (longB l) := by
  unfold verditerlaw06_Long.f longB
  by_cases h : 50 < l.length
  · rw [if_pos (by omega), decide_eq_true h]; rfl
  · rw [if_neg (by omega), decide_eq_false h]
    exact (long_l0 l hm l.length k 0 (by omega) (by omega) (by omega)).trans (by simp)
theorem long_not {l : List S53} (h : longB l = false) : l.length ≤ 50 ∧ ∀ y, y ∈ l → y.f0.length ≤ 50 ∧ y.f1.length ≤ 50 := by
  unfold longB at h
  rw [Bool.or_eq_false_iff] at h
  refine ⟨by simpa using h.1, fun y hy => ?_⟩
  have := (List.any_eq_false.mp h.2) y hy
  unfold longW at this
  simpa using this

/-- Are the marks of the lots i and j the same, or opposite? -/
def pairB (l : List S53) (i j : Nat) : Bool := (refMark l i == refMark l j) || (refMark l i == (refMark l j).map fun y => wrap64 (-1 * y))
theorem tel_l1 (lots : Int) (l : List S53) (hm : l.length ≤ 3) (hs : ∀ y, y ∈ l → y.f0.length ≤ 50 ∧ y.f1.length ≤ 50) (i : Nat) (hi : i < 9223372036854775807) (K : Nat) (r : Bool)
    (hc : ∀ k, K ≤ k → verditerref06_tells.l0 k lots l ((i + 1 : Nat) : Int) = some r) :
    ∀ (d j k : Nat), i - j = d → j ≤ i → K + d + 60 ≤ k → verditerref06_tells.l1 k lots l i (refMark l i) j = some (if (List.range' j d).any (pairB l i) = true then false else r)
  | 0, j, k + 1, h1, h2, h3 => by
    unfold verditerref06_tells.l1
    rw [if_neg (by omega), wrs i hi, hc k (by omega)]
    rfl
  | d + 1, j, k + 1, h1, h2, h3 => by
    have ih := tel_l1 lots l hm hs i hi K r hc d (j + 1) k (by omega) (by omega) (by omega)
    have hlen : ∀ x, (refMark l x).length ≤ 3 := fun x => by unfold refMark; rw [List.length_map]; exact hm
    unfold verditerref06_tells.l1
    rw [if_pos (by omega), mark_f l _ k (by omega) hs (by omega), Option.bind_some, same_f _ _ k (by have := hlen i; omega) (by have := hlen i; omega), Option.bind_some, Option.bind_some,
      times_f _ _ k (by have := hlen j; omega) (by have := hlen j; omega), Option.bind_some, same_f _ _ k (by have := hlen i; omega) (by have := hlen i; omega), Option.bind_some, wrs j (by omega), ih, List.range'_succ, List.any_cons]
    unfold pairB
    cases (refMark l i == refMark l j) <;> cases (refMark l i == (refMark l j).map fun y => wrap64 (-1 * y)) <;> simp
/-- Do the lots from i on, d of them, tell? -/
def telB (l : List S53) : Nat → Nat → Bool
  | 0, _ => true
  | d + 1, i => if (refMark l i).all (· == 0) = true then false else if (List.range' 0 i).any (pairB l i) = true then false else telB l d (i + 1)
theorem telB_succ (l : List S53) (d i : Nat) : telB l (d + 1) i = if (refMark l i).all (· == 0) = true then false else if (List.range' 0 i).any (pairB l i) = true then false else telB l d (i + 1) := rfl
theorem tel_l0 (n : Nat) (hn : n ≤ 13) (l : List S53) (hm : l.length ≤ 3) (hs : ∀ y, y ∈ l → y.f0.length ≤ 50 ∧ y.f1.length ≤ 50) :
    ∀ (d i k : Nat), i + d = n → 100 * (d + 1) ≤ k → verditerref06_tells.l0 k n l i = some (telB l d i)
  | 0, i, k + 1, h1, h2 => by
    unfold verditerref06_tells.l0
    rw [if_neg (by omega)]
    rfl
  | d + 1, i, k + 1, h1, h2 => by
    have hlen : (refMark l i).length ≤ 3 := by unfold refMark; rw [List.length_map]; exact hm
    have h := tel_l1 n l hm hs i (by omega) (100 * (d + 1)) (telB l d (i + 1)) (fun k hk => tel_l0 n hn l hm hs d (i + 1) k (by omega) hk) i 0 k (by omega) (by omega) (by omega)
    rw [show ((0 : Nat) : Int) = 0 from rfl] at h
    unfold verditerref06_tells.l0
    rw [if_pos (by omega), mark_f l _ k (by omega) hs (by omega), Option.bind_some, isBlank_f _ k (by omega) (by omega), Option.bind_some, h]
    rw [telB_succ]
    split <;> rfl
theorem refTells_f (lots : Int) (l : List S53) (hm : l.length < 9223372036854775807) (hs : ∀ y, y ∈ l → y.f0.length ≤ 50 ∧ y.f1.length ≤ 50) (k : Nat) (hk : 2000 ≤ k) :
    verditerref06_Tells.f k lots l = some (if pErr lots l = 0 then (telB l lots.toNat 0, 0) else (false, pErr lots l)) := by
  unfold verditerref06_Tells.f
  rw [refValidate_f lots l hm hs k (by omega), Option.bind_some]
  by_cases h : pErr lots l = 0
  · rw [if_pos h, if_pos h]
    have hp : (1 ≤ lots ∧ lots ≤ 13) ∧ l.length ≤ 3 := by
      unfold pErr at h
      split at h
      · rename_i h1
        split at h
        · cases h
        · exact ⟨h1, by omega⟩
      · cases h
    obtain ⟨n, rfl⟩ := Int.eq_ofNat_of_zero_le (show 0 ≤ lots by omega)
    unfold verditerref06_tells.f
    have := tel_l0 n (by omega) l hp.2 hs n 0 k (by omega) (by omega)
    rw [show ((0 : Nat) : Int) = 0 from rfl] at this
    rw [this]
    rfl
  · rw [if_neg h, if_neg h]
end Go.Proofs.Ytdbeochifofdoaa.X
end

section
/-! The program's marks are the document's. -/
namespace Go.Proofs.Ytdbeochifofdoaa.X
open Go.RowKit Go.Proofs.YtdbeochifofdoaaW.PrintWords Go.Proofs.YtdbeochifofdoaaW.PrintLast
set_option linter.unusedVariables false
set_option linter.unusedSimpArgs false

theorem fsetl_at (k : Nat) (v : Int) : ∀ (l : List Int) (f : Nat → Nat → Int) (a b : Nat), (∀ x, x ∈ l → 0 ≤ x) → fsetl k v f l a b = if b = k ∧ l.contains (a : Int) = true then v else f a b
  | [], f, a, b, _ => by simp [fsetl]
  | x :: xs, f, a, b, h => by
    have hx : 0 ≤ x := h x List.mem_cons_self
    rw [fsetl, fsetl_at k v xs _ a b (fun y hy => h y (List.mem_cons_of_mem _ hy)), List.contains_cons]
    by_cases hb : b = k
    · subst hb
      cases hc : xs.contains (a : Int) with
      | true => simp
      | false =>
        unfold upd
        by_cases he : a = x.toNat
        · have h1 : ((a : Int) == x) = true := by rw [beq_iff_eq]; omega
          rw [h1]; simp [he]
        · have h1 : ((a : Int) == x) = false := by rw [beq_eq_false_iff_ne]; omega
          simp [he, h1]
    · simp [hb, upd]
/-- What a weighing writes into the row a. -/
def cellOf (y : S53) (a v : Int) : Int := if y.f1.contains a = true then -1 else if y.f0.contains a = true then 1 else v
theorem marksF_at : ∀ (l : List S53) (f : Nat → Nat → Int) (k a b : Nat), (∀ y, y ∈ l → (∀ x, x ∈ y.f0 → 0 ≤ x) ∧ ∀ x, x ∈ y.f1 → 0 ≤ x) →
    marksF f k l a b = if k ≤ b ∧ b < k + l.length then cellOf (l.getD (b - k) z53) a (f a b) else f a b
  | [], f, k, a, b, _ => by
    rw [if_neg (by rw [List.length_nil]; omega)]
    rfl
  | y :: ys, f, k, a, b, h => by
    have hy := h y List.mem_cons_self
    rw [marksF, marksF_at ys _ (k + 1) a b (fun z hz => h z (List.mem_cons_of_mem _ hz)), fsetl_at k (-1) y.f1 _ a b hy.2, fsetl_at k 1 y.f0 f a b hy.1]
    by_cases hb : b = k
    · subst hb
      rw [if_neg (by omega), if_pos (show b ≤ b ∧ b < b + (y :: ys).length by rw [List.length_cons]; omega), Nat.sub_self, List.getD_cons_zero]
      unfold cellOf
      simp
    · by_cases hr : k + 1 ≤ b ∧ b < k + 1 + ys.length
      · rw [if_pos hr, if_pos (show k ≤ b ∧ b < k + (y :: ys).length by rw [List.length_cons]; omega), show b - k = (b - (k + 1)) + 1 by omega]
        simp [hb, List.getD_cons_succ]
      · rw [if_neg hr, if_neg (show ¬ (k ≤ b ∧ b < k + (y :: ys).length) by rw [List.length_cons]; omega)]
        simp [hb]
end Go.Proofs.Ytdbeochifofdoaa.X
end

section
/-! bad finds nothing just if the plan tells. -/
namespace Go.Proofs.Ytdbeochifofdoaa.X
open Go.RowKit Go.Proofs.YtdbeochifofdoaaW.PrintWords Go.Proofs.YtdbeochifofdoaaW.PrintLast
set_option linter.unusedVariables false
set_option linter.unusedSimpArgs false

/-- A lot's mark, as three numbers. -/
def mk3 (l : List S53) (n : Nat) : S70 := ⟨((refMark l n).getD 0 0), ((refMark l n).getD 1 0), ((refMark l n).getD 2 0)⟩
theorem cellOf_mark (y : S53) (n : Nat) : cellOf y n 0 = markOf n y := rfl
theorem marksF_mk (l : List S53) (hp : ∀ y, y ∈ l → (∀ x, x ∈ y.f0 → 0 ≤ x) ∧ ∀ x, x ∈ y.f1 → 0 ≤ x) (n k : Nat) : marksF (fun _ _ => 0) 0 l n k = (refMark l n).getD k 0 := by
  rw [marksF_at l _ 0 n k hp]
  by_cases h : k < l.length
  · rw [if_pos (by omega), cellOf_mark]
    simp [refMark, List.getD_eq_getElem?_getD, List.getElem?_map, List.getElem?_eq_getElem h]
  · rw [if_neg (by omega)]
    simp [refMark, List.getD_eq_getElem?_getD, List.getElem?_eq_none (by simpa using h : l.length ≤ k)]
theorem marksL_mk (lots : Int) (l : List S53) (hp : ∀ y, y ∈ l → (∀ x, x ∈ y.f0 → 0 ≤ x) ∧ ∀ x, x ∈ y.f1 → 0 ≤ x) : marksL lots l = (List.range lots.toNat).map (mk3 l) := by
  unfold marksL rowsOf mk3
  simp only [marksF_mk l hp]
theorem markOf_small (n : Int) (y : S53) : -1 ≤ markOf n y ∧ markOf n y ≤ 1 := by
  unfold markOf
  split
  · decide
  · split <;> decide
theorem isZ_mk (l : List S53) (n : Nat) (hl : l.length ≤ 3) : isZ (mk3 l n) = (refMark l n).all (· == 0) := by
  match l, hl with
  | [], _ => rfl
  | [a], _ => simp [isZ, mk3, refMark]
  | [a, b], _ => simp [isZ, mk3, refMark]
  | [a, b, c], _ => simp [isZ, mk3, refMark, Bool.and_assoc]
theorem wr_small {v : Int} (h : -1 ≤ v ∧ v ≤ 1) : wrap64 (v * 1) = v ∧ wrap64 (v * -1) = -v ∧ wrap64 (-1 * v) = -v := by
  refine ⟨?_, ?_, ?_⟩
  · rw [Int.mul_one]; exact wr_of (by omega) (by omega)
  · rw [show v * -1 = -v by omega]; exact wr_of (by omega) (by omega)
  · rw [show -1 * v = -v by omega]; exact wr_of (by omega) (by omega)
end Go.Proofs.Ytdbeochifofdoaa.X
end

section
/-! bad finds nothing just if the document's tells. -/
namespace Go.Proofs.Ytdbeochifofdoaa.X
open Go.RowKit Go.Proofs.YtdbeochifofdoaaW.PrintWords Go.Proofs.YtdbeochifofdoaaW.PrintLast
set_option linter.unusedVariables false
set_option linter.unusedSimpArgs false

theorem sm_pos {x y : Int} (hx : -1 ≤ x ∧ x ≤ 1) : (y == wrap64 (x * 1)) = (x == y) := by
  rw [(wr_small hx).1]; exact BEq.comm
theorem sm_neg {x y : Int} (hx : -1 ≤ x ∧ x ≤ 1) (hy : -1 ≤ y ∧ y ≤ 1) : (y == wrap64 (x * -1)) = (x == wrap64 (-1 * y)) := by
  rw [(wr_small hx).2.1, (wr_small hy).2.2]
  rw [Bool.eq_iff_iff, beq_iff_eq, beq_iff_eq]
  omega
theorem eqTim_pos (l : List S53) (hl : l.length ≤ 3) (i j : Nat) : eqTim (mk3 l j) (mk3 l i) 1 = (refMark l i == refMark l j) := by
  have h0 : ((0 : Int) == wrap64 (0 * 1)) = true := by rw [(wr_small (v := 0) (by omega)).1]; rfl
  have hn : (([] : List Int) == []) = true := rfl
  match l, hl with
  | [], _ => simp only [eqTim, mk3, refMark, List.map_nil, List.getD_nil, h0, hn, Bool.and_true]
  | [a], _ => simp only [eqTim, mk3, refMark, List.map_cons, List.map_nil, List.getD_cons_zero, List.getD_cons_succ, List.getD_nil, h0, sm_pos (markOf_small _ _), List.cons_beq_cons, hn, Bool.and_true]
  | [a, b], _ => simp only [eqTim, mk3, refMark, List.map_cons, List.map_nil, List.getD_cons_zero, List.getD_cons_succ, List.getD_nil, h0, sm_pos (markOf_small _ _), List.cons_beq_cons, hn, Bool.and_true]
  | [a, b, c], _ => simp only [eqTim, mk3, refMark, List.map_cons, List.map_nil, List.getD_cons_zero, List.getD_cons_succ, List.getD_nil, h0, sm_pos (markOf_small _ _), List.cons_beq_cons, hn, Bool.and_true]
theorem eqTim_neg (l : List S53) (hl : l.length ≤ 3) (i j : Nat) : eqTim (mk3 l j) (mk3 l i) (-1) = (refMark l i == (refMark l j).map fun y => wrap64 (-1 * y)) := by
  have h0 : ((0 : Int) == wrap64 (0 * -1)) = true := by rw [(wr_small (v := 0) (by omega)).2.1]; rfl
  have hn : (([] : List Int) == []) = true := rfl
  match l, hl with
  | [], _ => simp only [eqTim, mk3, refMark, List.map_nil, List.getD_nil, h0, hn, Bool.and_true]
  | [a], _ => simp only [eqTim, mk3, refMark, List.map_cons, List.map_nil, List.getD_cons_zero, List.getD_cons_succ, List.getD_nil, h0, sm_neg (markOf_small _ _) (markOf_small _ _), List.cons_beq_cons, hn, Bool.and_true]
  | [a, b], _ => simp only [eqTim, mk3, refMark, List.map_cons, List.map_nil, List.getD_cons_zero, List.getD_cons_succ, List.getD_nil, h0, sm_neg (markOf_small _ _) (markOf_small _ _), List.cons_beq_cons, hn, Bool.and_true]
  | [a, b, c], _ => simp only [eqTim, mk3, refMark, List.map_cons, List.map_nil, List.getD_cons_zero, List.getD_cons_succ, List.getD_nil, h0, sm_neg (markOf_small _ _) (markOf_small _ _), List.cons_beq_cons, hn, Bool.and_true]
theorem pair_eq (l : List S53) (hl : l.length ≤ 3) (i j : Nat) : (eqTim (mk3 l j) (mk3 l i) 1 || eqTim (mk3 l j) (mk3 l i) (-1)) = pairB l i j := by
  rw [eqTim_pos l hl, eqTim_neg l hl]; rfl
theorem badJ_none (m : S70) (i : Int) : ∀ (os : List S70) (j : Int), (badJ m i os j).isNone = !(os.any fun o => eqTim o m 1 || eqTim o m (-1))
  | [], _ => rfl
  | o :: os, j => by
    rw [badJ, List.any_cons]
    cases h1 : eqTim o m 1 with
    | true => rfl
    | false =>
      cases h2 : eqTim o m (-1) with
      | true => rfl
      | false =>
        rw [if_neg (by simp), if_neg (by simp), badJ_none m i os]
        rfl
theorem badI_none (l : List S53) (hl : l.length ≤ 3) (n : Nat) : ∀ (d i : Nat), i + d = n →
    (badI ((List.range n).map (mk3 l)) (((List.range n).map (mk3 l)).drop i) i).isNone = telB l d i
  | 0, i, h => by
    rw [List.drop_eq_nil_of_le (by simp; omega)]
    rfl
  | d + 1, i, h => by
    have ih := badI_none l hl n d (i + 1) (by omega)
    have ht : (((List.range n).map (mk3 l)).take i) = (List.range i).map (mk3 l) := by
      rw [← List.map_take, List.take_range, Nat.min_eq_left (by omega)]
    have hd : ((List.range n).map (mk3 l)).drop i = mk3 l i :: ((List.range n).map (mk3 l)).drop (i + 1) := by
      rw [List.drop_eq_getElem_cons (by simp; omega)]
      simp
    have hj : (badJ (mk3 l i) i ((List.range i).map (mk3 l)) 0).isNone = !((List.range' 0 i).any (pairB l i)) := by
      rw [badJ_none, List.any_map, List.range_eq_range']
      congr 2
      funext j
      exact pair_eq l hl i j
    rw [hd, badI, telB_succ, ht, isZ_mk l i hl]
    cases (refMark l i).all (· == 0) with
    | true => rfl
    | false =>
      rw [if_neg (by simp), if_neg (by simp)]
      generalize hq : badJ (mk3 l i) i ((List.range i).map (mk3 l)) 0 = q at *
      cases q with
      | none =>
        have : (List.range' 0 i).any (pairB l i) = false := by simpa using hj
        rw [this, if_neg (by simp)]
        exact ih
      | some v =>
        have : (List.range' 0 i).any (pairB l i) = true := by simpa using hj
        rw [this, if_pos rfl]
        rfl
theorem badOut_some (r : Option (Int × Int × Int × Int)) : (badOut r).2.2.2.2 = !r.isNone := by
  match r with
  | none => rfl
  | some (a, b, c, d) => rfl
theorem okP_pos {lots : Int} {l : List S53} (h : OkP lots l) : ∀ y, y ∈ l → (∀ x, x ∈ y.f0 → 0 ≤ x) ∧ ∀ x, x ∈ y.f1 → 0 ≤ x :=
  fun y hy => ⟨fun x hx => ((h.each y hy).left x hx).1, fun x hx => ((h.each y hy).right x hx).1⟩
theorem badI_tel {lots : Int} {l : List S53} (hp : pErr lots l = 0) : (badI (marksL lots l) (marksL lots l) 0).isNone = telB l lots.toNat 0 := by
  have ok := pErr_ok hp
  rw [marksL_mk lots l (okP_pos ok)]
  have := badI_none l ok.few lots.toNat lots.toNat 0 (by omega)
  simpa using this
theorem bad_tel {lots : Int} {l : List S53} (hp : pErr lots l = 0) : ∃ a b c d, weigh_bad.f lots l = some (a, b, c, d, !telB l lots.toNat 0) := by
  unfold weigh_bad.f
  rw [if_pos hp]
  have hb : (badOut (badI (marksL lots l) (marksL lots l) 0)).2.2.2.2 = !telB l lots.toNat 0 := by rw [badOut_some, badI_tel hp]
  generalize badOut (badI (marksL lots l) (marksL lots l) 0) = r at *
  obtain ⟨a, b, c, d, e⟩ := r
  obtain rfl : e = _ := hb
  exact ⟨a, b, c, d, rfl⟩
theorem Tells_f (lots : Int) (l : List S53) : weigh_Tells.f lots l = some (if pErr lots l = 0 then (telB l lots.toNat 0, 0) else (false, pErr lots l)) := by
  unfold weigh_Tells.f weigh_Validate.f
  rw [Option.bind_some]
  by_cases hp : pErr lots l = 0
  · rw [if_pos hp, if_pos hp]
    obtain ⟨a, b, c, d, h⟩ := bad_tel hp
    rw [h, Option.bind_some, Bool.not_not]
  · rw [if_neg hp, if_neg hp]
end Go.Proofs.Ytdbeochifofdoaa.X
end

section
/-! Marks, and the plan of marks. -/
namespace Go.Proofs.Ytdbeochifofdoaa.X
open Go.RowKit Go.Proofs.YtdbeochifofdoaaW.PrintWords Go.Proofs.YtdbeochifofdoaaW.PrintLast
set_option linter.unusedVariables false
set_option linter.unusedSimpArgs false

theorem cut3_mk (l : List S53) (hl : l.length ≤ 3) (n : Nat) : cut3 l.length (mk3 l n) = refMark l n := by
  match l, hl with
  | [], _ => rfl
  | [a], _ => rfl
  | [a, b], _ => rfl
  | [a, b, c], _ => rfl
/-- The marks of the lots. -/
def marksV (lots : Int) (l : List S53) : List (List Int) := (List.range lots.toNat).map fun n => refMark l (n : Nat)
theorem Marks_f (lots : Int) (l : List S53) : weigh_Marks.f lots l = some (if pErr lots l = 0 then (marksV lots l, 0) else ([], pErr lots l)) := by
  unfold weigh_Marks.f
  by_cases hp : pErr lots l = 0
  · rw [if_pos hp, if_pos hp, marksL_mk lots l (okP_pos (pErr_ok hp)), List.map_map]
    congr 2
    unfold marksV
    refine List.map_congr_left fun n _ => ?_
    exact cut3_mk l (pErr_ok hp).few n
  · rw [if_neg hp, if_neg hp]
/-- An ascending list of numbers below c. -/
theorem asc_of_set (c : Int) : ∀ (xs : List Int) (p : Option Int), setFrom c p xs = true → (∀ x, x ∈ xs → 0 ≤ x ∧ x < c ∧ ∀ q, p = some q → q < x) ∧ xs.Pairwise (· < ·)
  | [], p, _ => ⟨fun x hx => (by cases hx), List.Pairwise.nil⟩
  | x :: xs, p, h => by
    rw [setFrom_cons] at h
    simp only [Bool.and_eq_true, decide_eq_true_eq] at h
    obtain ⟨⟨⟨h0, h1⟩, h2⟩, h3⟩ := h
    have ih := asc_of_set c xs (some x) h3
    have hpx : ∀ q, p = some q → q < x := by
      intro q hq
      subst hq
      simpa [aboveB] using h2
    refine ⟨fun y hy => ?_, List.Pairwise.cons (fun y hy => (ih.1 y hy).2.2 x rfl) ih.2⟩
    rcases List.mem_cons.1 hy with rfl | hy
    · exact ⟨h0, by omega, hpx⟩
    · have := ih.1 y hy
      exact ⟨this.1, this.2.1, fun q hq => by have := this.2.2 x rfl; have := hpx q hq; omega⟩
theorem filter_asc : ∀ (d lo : Nat) (xs : List Int), xs.Pairwise (· < ·) → (∀ x, x ∈ xs → (lo : Int) ≤ x ∧ x < ((lo + d : Nat) : Int)) → ((List.range' lo d).filter (fun (n : Nat) => xs.contains (n : Int))).map (fun n => ((n : Nat) : Int)) = xs
  | 0, lo, xs, _, hb => by
    match xs, hb with
    | [], _ => rfl
    | x :: xs, hb =>
      have := hb x List.mem_cons_self
      omega
  | d + 1, lo, [], _, _ => by simp
  | d + 1, lo, x :: xs, hp, hb => by
    rw [List.pairwise_cons] at hp
    have hx := hb x List.mem_cons_self
    rw [List.range'_succ, List.filter_cons]
    by_cases he : (lo : Int) = x
    · have hc : (x :: xs).contains (lo : Int) = true := by simp [he]
      rw [if_pos hc, List.map_cons]
      have ih := filter_asc d (lo + 1) xs hp.2 (fun y hy => by
        have h1 := hp.1 y hy
        have h2 := hb y (List.mem_cons_of_mem _ hy)
        omega)
      rw [he]
      congr 1
      rw [← ih]
      congr 1
      rw [ih]
      refine List.filter_congr fun n hn => ?_
      rw [List.mem_range'_1] at hn
      rw [List.contains_cons]
      have : ((n : Int) == x) = false := by rw [beq_eq_false_iff_ne]; omega
      rw [this, Bool.false_or]
    · have hc : (x :: xs).contains (lo : Int) = false := by
        rw [List.contains_eq_any_beq, List.any_eq_false]
        intro y hy
        have : (lo : Int) ≠ y := by
          rcases List.mem_cons.1 hy with rfl | hy
          · exact he
          · have := hp.1 y hy
            omega
        simpa using this
      rw [if_neg (by rw [hc]; simp)]
      exact filter_asc d (lo + 1) (x :: xs) (List.pairwise_cons.2 hp) (fun y hy => by
        have h2 := hb y hy
        rcases List.mem_cons.1 hy with rfl | hy
        · omega
        · have := hp.1 y hy
          omega)
theorem sideI_map (k : Nat) (s : Int) (g : Nat → List Int) : ∀ (m n : Nat), sideI k s n ((List.range' n m).map g) = ((List.range' n m).filter (fun j => (g j).getD k 0 == s)).map (fun n => ((n : Nat) : Int))
  | 0, n => by simp [sideI]
  | m + 1, n => by
    rw [List.range'_succ, List.map_cons, List.filter_cons]
    unfold sideI
    rw [sideI_map k s g m (n + 1)]
    by_cases h : (g n).getD k 0 = s
    · rw [if_pos h, if_pos (beq_iff_eq.2 h)]; rfl
    · rw [if_neg h, if_neg (by simpa using h)]
theorem refMark_get (l : List S53) (n : Int) (k : Nat) (hk : k < l.length) : (refMark l n).getD k 0 = markOf n (l.getD k z53) := by
  simp [refMark, List.getD_eq_getElem?_getD, List.getElem?_map, List.getElem?_eq_getElem hk]
/-- The sides of a weighing, out of the marks. -/
theorem side_left {lots : Int} {y : S53} (h : OkW lots y) (hl : 0 ≤ lots) : ((List.range' 0 lots.toNat).filter (fun (n : Nat) => markOf (n : Int) y == 1)).map (fun n => ((n : Nat) : Int)) = y.f0 := by
  have ha := asc_of_set lots y.f0 none h.lset
  have e := filter_asc lots.toNat 0 y.f0 ha.2 (fun x hx => by have := ha.1 x hx; omega)
  refine (congrArg (List.map fun (n : Nat) => (n : Int)) (List.filter_congr fun n hn => ?_)).trans e
  unfold markOf
  cases h1 : y.f1.contains (n : Int) with
  | true =>
    have : y.f0.contains (n : Int) = false := by
      cases h0 : y.f0.contains (n : Int) with
      | false => rfl
      | true => exact absurd (by simpa using h1) (h.apart _ (by simpa using h0))
    rw [this]; rfl
  | false => cases y.f0.contains (n : Int) <;> rfl
theorem side_right {lots : Int} {y : S53} (h : OkW lots y) (hl : 0 ≤ lots) : ((List.range' 0 lots.toNat).filter (fun (n : Nat) => markOf (n : Int) y == -1)).map (fun n => ((n : Nat) : Int)) = y.f1 := by
  have ha := asc_of_set lots y.f1 none h.rset
  have e := filter_asc lots.toNat 0 y.f1 ha.2 (fun x hx => by have := ha.1 x hx; omega)
  refine (congrArg (List.map fun (n : Nat) => (n : Int)) (List.filter_congr fun n hn => ?_)).trans e
  unfold markOf
  cases y.f1.contains (n : Int) with
  | true => rfl
  | false => cases y.f0.contains (n : Int) <;> rfl
theorem sides {lots : Int} {l : List S53} (hp : pErr lots l = 0) (k : Nat) (hk : k < l.length) : sideI k 1 0 (marksV lots l) = (l.getD k z53).f0 ∧ sideI k (-1) 0 (marksV lots l) = (l.getD k z53).f1 := by
  have ok := pErr_ok hp
  have hlo := ok.lo
  have hw := ok.each _ (mem_getD z53 l k hk)
  unfold marksV
  rw [List.range_eq_range', sideI_map, sideI_map]
  simp only [refMark_get l _ k hk]
  exact ⟨side_left hw (by omega), side_right hw (by omega)⟩
theorem fromR_marks {lots : Int} {l : List S53} (hp : pErr lots l = 0) : ∀ (d k : Nat), k + d = l.length → fromR (marksV lots l) d k (l.take k) = (l, 0)
  | 0, k, h => by
    unfold fromR
    rw [List.take_of_length_le (by omega)]
  | d + 1, k, h => by
    have hk : k < l.length := by omega
    obtain ⟨e1, e2⟩ := sides hp k hk
    have hev := ((pErr_ok hp).each _ (mem_getD z53 l k hk)).even
    unfold fromR
    rw [e1, e2, if_pos hev]
    have ht : l.take (k + 1) = l.take k ++ [l.getD k z53] := by rw [List.take_succ_eq_append_getElem hk]; simp [List.getD_eq_getElem?_getD, List.getElem?_eq_getElem hk]
    have ih := fromR_marks hp d (k + 1) (by omega)
    rw [ht] at ih
    exact ih
theorem FromMarks_marks {lots : Int} {l : List S53} (hp : pErr lots l = 0) : weigh_FromMarks.f (marksV lots l) = some (l, 0) := by
  have ok := pErr_ok hp
  have hlo := ok.lo
  have hhi := ok.hi
  have few := ok.few
  have hlen : (marksV lots l).length = lots.toNat := by simp [marksV]
  have hel : ∀ m, m ∈ marksV lots l → ∃ n : Nat, m = refMark l n := by
    intro m hm
    obtain ⟨n, _, rfl⟩ := List.mem_map.1 hm
    exact ⟨n, rfl⟩
  have h0 : ((marksV lots l).getD 0 []).length = l.length := by
    obtain ⟨n, hn⟩ := hel _ (mem_getD ([] : List Int) (marksV lots l) 0 (by omega))
    rw [hn]
    simp [refMark]
  unfold weigh_FromMarks.f
  have hlb : lenB (marksV lots l) = false := by
    unfold lenB
    rw [List.any_eq_false]
    intro m hm
    obtain ⟨n, rfl⟩ := hel m hm
    simp [refMark]
    omega
  have hbr : (marksV lots l).any (badRow (marksV lots l)) = false := by
    rw [List.any_eq_false]
    intro m hm
    obtain ⟨n, rfl⟩ := hel m hm
    unfold badRow
    rw [h0]
    have : sideB (refMark l n) = false := by
      unfold sideB
      rw [List.any_eq_false]
      intro x hx
      obtain ⟨y, _, rfl⟩ := List.mem_map.1 hx
      have := markOf_small n y
      simp
      omega
    rw [this]
    simp [refMark]
  rw [if_pos (by rw [hlen]; simp; omega), hlb, hbr, if_neg (by simp), if_neg (by simp), h0]
  have := fromR_marks hp l.length 0 (by omega)
  rw [List.take_zero] at this
  rw [this]
end Go.Proofs.Ytdbeochifofdoaa.X
end

section
/-! The document's FromMarks is the program's; the marks of the plan that is made. -/
namespace Go.Proofs.Ytdbeochifofdoaa.X
open Go.RowKit Go.Proofs.YtdbeochifofdoaaW.PrintWords Go.Proofs.YtdbeochifofdoaaW.PrintLast
set_option linter.unusedVariables false
set_option linter.unusedSimpArgs false

theorem rwithin_g (a b c : Int) : verditerref06_within.f a b c = some (decide (b ≤ a) && decide (a ≤ c)) := by
  unfold verditerref06_within.f
  by_cases h : a ≥ b
  · rw [if_pos h]; simp [h]
  · rw [if_neg h]; simp [show ¬ b ≤ a from h]
theorem fm_l0 (L : List (List Int)) (hL : L.length ≤ 50) (K : Nat) (R : Option (List S53 × Int)) (hR : ∀ k, K ≤ k → verditerref06_FromMarks.l1 k L 0 = R) :
    ∀ (d k i : Nat), i ≤ L.length → L.length - i = d → K + d + 1 ≤ k → verditerref06_FromMarks.l0 k L i = if lenB (L.drop i) = true then some ([], 3) else R
  | 0, k + 1, i, h1, h2, h3 => by
    unfold verditerref06_FromMarks.l0
    rw [if_neg (by omega), hR k (by omega), List.drop_eq_nil_of_le (by omega)]
    rfl
  | d + 1, k + 1, i, h1, h2, h3 => by
    unfold verditerref06_FromMarks.l0
    have ih := fm_l0 L hL K R hR d k (i + 1) (by omega) (by omega) (by omega)
    rw [if_pos (by omega), if_pos (by omega), show rd_L5 L (i : Int) = L.getD i [] from rfl, wrs i (by omega), ih, dropD ([] : List Int) L i (by omega)]
    unfold lenB
    rw [List.any_cons]
    by_cases h : ((L.getD i []).length : Int) > 3
    · rw [if_pos h, if_pos (by rw [decide_eq_true (show (3 : Int) < ((L.getD i []).length : Int) by omega)]; rfl)]
    · rw [if_neg h, decide_eq_false (show ¬ (3 : Int) < ((L.getD i []).length : Int) by omega), Bool.false_or]
theorem fm_l2 (L : List (List Int)) (i : Nat) (hi : i < L.length) (h3 : (L.getD i []).length ≤ 3) (hL : L.length ≤ 50) (K : Nat) (R : Option (List S53 × Int))
    (hR : ∀ k, K ≤ k → verditerref06_FromMarks.l1 k L ((i + 1 : Nat) : Int) = R) :
    ∀ (d k j : Nat), j ≤ (L.getD i []).length → (L.getD i []).length - j = d → K + d + 1 ≤ k → verditerref06_FromMarks.l2 k L i j = if sideB ((L.getD i []).drop j) = true then some ([], 1) else R
  | 0, k + 1, j, h1, h2, hk => by
    unfold verditerref06_FromMarks.l2
    rw [if_pos (by omega), if_pos (by omega), show rd_L5 L (i : Int) = L.getD i [] from rfl, if_neg (by omega), wrs i (by omega), hR k (by omega), List.drop_eq_nil_of_le (by omega)]
    rfl
  | d + 1, k + 1, j, h1, h2, hk => by
    unfold verditerref06_FromMarks.l2
    have ih := fm_l2 L i hi h3 hL K R hR d k (j + 1) (by omega) (by omega) (by omega)
    rw [if_pos (by omega), if_pos (by omega), show rd_L5 L (i : Int) = L.getD i [] from rfl, if_pos (by omega), if_pos (by omega), rd_nat, rwithin_g, Option.bind_some, wrs j (by omega), ih, dropD 0 (L.getD i []) j (by omega)]
    unfold sideB
    rw [List.any_cons]
    cases (decide (-1 ≤ (L.getD i []).getD j 0) && decide ((L.getD i []).getD j 0 ≤ 1)) <;> simp
theorem fm_l1 (L : List (List Int)) (hL : L.length ≤ 50) (h3 : ∀ m, m ∈ L → m.length ≤ 3) (K : Nat) (R : Option (List S53 × Int)) (hR : ∀ k, K ≤ k → verditerref06_FromMarks.l3 k L [] 0 = R) :
    ∀ (d k i : Nat), i ≤ L.length → L.length - i = d → K + 10 * (d + 1) ≤ k → verditerref06_FromMarks.l1 k L i = if (L.drop i).any (badRow L) = true then some ([], 1) else R
  | 0, k + 1, i, h1, h2, hk => by
    unfold verditerref06_FromMarks.l1
    rw [if_neg (by omega), hR k (by omega), List.drop_eq_nil_of_le (by omega)]
    rfl
  | d + 1, k + 1, i, h1, h2, hk => by
    have hm := h3 _ (mem_getD ([] : List Int) L i (by omega))
    have ih := fun k hk => fm_l1 L hL h3 K R hR d k (i + 1) (by omega) (by omega) hk
    have h := fm_l2 L i (by omega) hm hL (K + 10 * (d + 1)) _ ih (L.getD i []).length k 0 (by omega) (by omega) (by omega)
    rw [show ((0 : Nat) : Int) = 0 from rfl] at h
    unfold verditerref06_FromMarks.l1
    rw [if_pos (by omega), if_pos (by omega), if_pos (by omega), show rd_L5 L (i : Int) = L.getD i [] from rfl, show rd_L5 L 0 = L.getD 0 [] from rfl, h, dropD ([] : List Int) L i (by omega), List.any_cons]
    unfold badRow
    by_cases he : ((L.getD i []).length : Int) = ((L.getD 0 []).length : Int)
    · have e2 : ((L.getD i []).length != (L.getD 0 []).length) = false := bne_eq_false_iff_eq.mpr (by omega)
      rw [if_pos he, e2, Bool.false_or, List.drop_zero]
      cases sideB (L.getD i []) <;> simp
    · have e2 : ((L.getD i []).length != (L.getD 0 []).length) = true := bne_iff_ne.mpr (by omega)
      rw [if_neg he, e2, Bool.true_or, Bool.true_or, if_pos rfl]
theorem sideI_cons (k : Nat) (s : Int) (n : Nat) (m : List Int) (q : List (List Int)) : sideI k s n (m :: q) = if m.getD k 0 = s then (n : Int) :: sideI k s (n + 1) q else sideI k s (n + 1) q := rfl
theorem fm_l4 (L : List (List Int)) (hL : L.length ≤ 50) (kk : Nat) (hkk2 : kk < 3) (hkk : ∀ m, m ∈ L → kk < m.length ∧ m.length ≤ 3 ∧ sideB m = false) (out : List S53) (ho : out.length ≤ 3) (K : Nat) (R : Option (List S53 × Int))
    (hR : ∀ k, K ≤ k → verditerref06_FromMarks.l3 k L (out ++ [⟨sideI kk 1 0 L, sideI kk (-1) 0 L⟩]) ((kk + 1 : Nat) : Int) = R) :
    ∀ (d k i : Nat) (xs ys : List Int), i ≤ L.length → L.length - i = d → K + d + 1 ≤ k → xs ++ sideI kk 1 i (L.drop i) = sideI kk 1 0 L → ys ++ sideI kk (-1) i (L.drop i) = sideI kk (-1) 0 L →
      verditerref06_FromMarks.l4 k L out kk ((xs.length : Int) - (ys.length : Int)) i xs ys = if (sideI kk 1 0 L).length = (sideI kk (-1) 0 L).length then R else some ([], 5)
  | 0, k + 1, i, xs, ys, h1, h2, hk, hx, hy => by
    unfold verditerref06_FromMarks.l4
    rw [List.drop_eq_nil_of_le (by omega)] at hx hy
    simp only [sideI, List.append_nil] at hx hy
    rw [if_neg (by omega), ← hx, ← hy]
    by_cases he : xs.length = ys.length
    · rw [if_pos (by omega), if_pos (by omega), if_pos he, wrs kk (by omega)]
      rw [← hx, ← hy] at hR
      exact hR k (by omega)
    · rw [if_neg (by omega), if_neg he]
  | d + 1, k + 1, i, xs, ys, h1, h2, hk, hx, hy => by
    have hm := hkk _ (mem_getD ([] : List Int) L i (by omega))
    have ih := fun a b => fm_l4 L hL kk hkk2 hkk out ho K R hR d k (i + 1) a b (by omega) (by omega) (by omega)
    have lx : xs.length ≤ 50 := by
      have h := congrArg List.length hx
      rw [List.length_append] at h
      have := sideI_len kk 1 L 0
      omega
    have ly : ys.length ≤ 50 := by
      have h := congrArg List.length hy
      rw [List.length_append] at h
      have := sideI_len kk (-1) L 0
      omega
    rw [dropD ([] : List Int) L i (by omega)] at hx hy
    rw [sideI_cons] at hx hy
    have hv : -1 ≤ (L.getD i []).getD kk 0 ∧ (L.getD i []).getD kk 0 ≤ 1 := by
      have h := List.any_eq_false.1 hm.2.2 _ (mem_getD 0 (L.getD i []) kk hm.1)
      generalize (L.getD i []).getD kk 0 = v at h ⊢
      simp at h
      omega
    unfold verditerref06_FromMarks.l4
    rw [if_pos (by omega), if_pos (by omega), if_pos (by omega), show rd_L5 L (i : Int) = L.getD i [] from rfl, if_pos (by omega), rd_nat, wrs i (by omega)]
    generalize (L.getD i []).getD kk 0 = v at *
    by_cases v1 : v = 1
    · subst v1
      rw [if_pos rfl] at hx
      rw [if_neg (by decide)] at hy
      have h := ih (xs ++ [(i : Int)]) ys (by rw [← hx]; simp) hy
      rw [if_pos rfl, if_pos (by omega), Option.bind_some, if_neg (by decide), wr_of (by omega) (by omega)]
      rw [← h]
      congr 1
      simp
      omega
    · rw [if_neg v1] at hx
      rw [if_neg v1]
      by_cases v2 : v = -1
      · subst v2
        rw [if_pos rfl] at hy
        have h := ih xs (ys ++ [(i : Int)]) hx (by rw [← hy]; simp)
        rw [if_pos rfl, if_pos (by omega), wr_of (by omega) (by omega)]
        rw [← h]
        congr 1
        simp
        omega
      · rw [if_neg v2] at hy
        have v0 : v = 0 := by omega
        subst v0
        have h := ih xs ys hx hy
        rw [if_neg (by decide), Int.add_zero, wr_of (by omega) (by omega)]
        exact h
theorem fm_l3 (L : List (List Int)) (h0 : 1 ≤ L.length) (hL : L.length ≤ 50) (n : Nat) (hn : n ≤ 3) (hkk : ∀ m, m ∈ L → m.length = n ∧ sideB m = false) :
    ∀ (d k kk : Nat) (out : List S53), kk + d = n → out.length = kk → 100 * (d + 1) ≤ k → verditerref06_FromMarks.l3 k L out kk = some (fromR L d kk out)
  | 0, k + 1, kk, out, h1, h2, hk => by
    have e0 := (hkk _ (mem_getD ([] : List Int) L 0 (by omega))).1
    unfold verditerref06_FromMarks.l3
    rw [if_pos (by omega), show rd_L5 L 0 = L.getD 0 [] from rfl, if_neg (by omega)]
    rfl
  | d + 1, k + 1, kk, out, h1, h2, hk => by
    have e0 := (hkk _ (mem_getD ([] : List Int) L 0 (by omega))).1
    have h := fm_l4 L hL kk (by omega) (fun m hm => by have := hkk m hm; exact ⟨by omega, by omega, this.2⟩) out (by omega) (100 * (d + 1)) _
      (fun k hk => fm_l3 L h0 hL n hn hkk d k (kk + 1) _ (by omega) (by simp [h2]) hk) L.length k 0 [] [] (by omega) (by omega) (by omega) (by simp) (by simp)
    simp only [List.length_nil] at h
    rw [show ((0 : Nat) : Int) = 0 from rfl, Int.sub_self] at h
    unfold verditerref06_FromMarks.l3
    rw [if_pos (by omega), show rd_L5 L 0 = L.getD 0 [] from rfl, if_pos (by omega), h, fromR]
    split <;> rfl
theorem refFromMarks_f (L : List (List Int)) (hL : L.length ≤ 50) (k : Nat) (hk : 2000 ≤ k) : verditerref06_FromMarks.f k L = weigh_FromMarks.f L := by
  unfold verditerref06_FromMarks.f weigh_FromMarks.f
  rw [rwithin_g, Option.bind_some]
  cases hw : (decide (1 ≤ (L.length : Int)) && decide ((L.length : Int) ≤ 13)) with
  | false => rw [if_neg (by simp), if_neg (by simp)]
  | true =>
    have hl : 1 ≤ L.length ∧ L.length ≤ 13 := by simp at hw; omega
    rw [if_pos rfl, if_pos rfl]
    cases hlb : lenB L with
    | true =>
      have h := fm_l0 L hL 1000 (verditerref06_FromMarks.l1 1000 L 0)
      have h2 : verditerref06_FromMarks.l0 k L 0 = some ([], 3) := by
        have h3 : ∀ (d k i : Nat), i ≤ L.length → L.length - i = d → d + 1 ≤ k → lenB (L.drop i) = true → verditerref06_FromMarks.l0 k L i = some ([], 3) := by
          intro d
          induction d with
          | zero =>
            intro k i h1 h2 _ hb
            rw [List.drop_eq_nil_of_le (by omega)] at hb
            cases hb
          | succ d ih =>
            intro k i h1 h2 hk hb
            obtain ⟨k, rfl⟩ : ∃ m, k = m + 1 := ⟨k - 1, by omega⟩
            unfold verditerref06_FromMarks.l0
            rw [if_pos (by omega), if_pos (by omega), show rd_L5 L (i : Int) = L.getD i [] from rfl, wrs i (by omega)]
            by_cases h : ((L.getD i []).length : Int) > 3
            · rw [if_pos h]
            · rw [if_neg h]
              rw [dropD ([] : List Int) L i (by omega)] at hb
              unfold lenB at hb
              rw [List.any_cons, decide_eq_false (show ¬ (3 : Int) < ((L.getD i []).length : Int) by omega), Bool.false_or] at hb
              exact ih k (i + 1) (by omega) (by omega) (by omega) hb
        have := h3 L.length k 0 (by omega) (by omega) (by omega) (by simpa using hlb)
        exact this
      rw [if_pos rfl, h2]
    | false =>
      have h3 : ∀ m, m ∈ L → m.length ≤ 3 := by
        intro m hm
        unfold lenB at hlb
        have := List.any_eq_false.1 hlb m hm
        simp at this
        omega
      rw [if_neg (by simp)]
      cases hbr : L.any (badRow L) with
      | true =>
        have hl1 : ∀ (d k i : Nat), i ≤ L.length → L.length - i = d → 10 * (d + 1) ≤ k → (L.drop i).any (badRow L) = true → verditerref06_FromMarks.l1 k L i = some ([], 1) := by
          intro d
          induction d with
          | zero =>
            intro k i h1 h2 _ hb
            rw [List.drop_eq_nil_of_le (by omega)] at hb
            cases hb
          | succ d ih =>
            intro k i h1 h2 hk hb
            obtain ⟨k, rfl⟩ : ∃ m, k = m + 1 := ⟨k - 1, by omega⟩
            have hm := h3 _ (mem_getD ([] : List Int) L i (by omega))
            rw [dropD ([] : List Int) L i (by omega), List.any_cons] at hb
            unfold verditerref06_FromMarks.l1
            rw [if_pos (by omega), if_pos (by omega), if_pos (by omega), show rd_L5 L (i : Int) = L.getD i [] from rfl, show rd_L5 L 0 = L.getD 0 [] from rfl]
            by_cases he : ((L.getD i []).length : Int) = ((L.getD 0 []).length : Int)
            · have e2 : ((L.getD i []).length != (L.getD 0 []).length) = false := bne_eq_false_iff_eq.mpr (by omega)
              rw [if_pos he]
              cases hs : sideB (L.getD i []) with
              | true =>
                have h2s : ∀ (d k j : Nat), j ≤ (L.getD i []).length → (L.getD i []).length - j = d → d + 1 ≤ k → sideB ((L.getD i []).drop j) = true → verditerref06_FromMarks.l2 k L i j = some ([], 1) := by
                  intro d
                  induction d with
                  | zero =>
                    intro k j h1 h2 _ hb
                    rw [List.drop_eq_nil_of_le (by omega)] at hb
                    cases hb
                  | succ d ih =>
                    intro k j h1 h2 hk hb
                    obtain ⟨k, rfl⟩ : ∃ m, k = m + 1 := ⟨k - 1, by omega⟩
                    unfold verditerref06_FromMarks.l2
                    rw [if_pos (by omega), if_pos (by omega), show rd_L5 L (i : Int) = L.getD i [] from rfl, if_pos (by omega), if_pos (by omega), rd_nat, rwithin_g, Option.bind_some, wrs j (by omega)]
                    rw [dropD 0 (L.getD i []) j (by omega)] at hb
                    unfold sideB at hb
                    rw [List.any_cons] at hb
                    cases hq : (decide (-1 ≤ (L.getD i []).getD j 0) && decide ((L.getD i []).getD j 0 ≤ 1)) with
                    | false => rw [if_neg (by simp)]
                    | true =>
                      rw [if_pos rfl]
                      rw [hq] at hb
                      rw [Bool.not_true, Bool.false_or] at hb
                      exact ih k (j + 1) (by omega) (by omega) (by omega) hb
                have := h2s (L.getD i []).length k 0 (by omega) (by omega) (by omega) (by simpa using hs)
                exact this
              | false =>
                have hb2 : badRow L (L.getD i []) = false := by unfold badRow; rw [e2, hs]; rfl
                rw [hb2, Bool.false_or] at hb
                have h := fm_l2 L i (by omega) hm hL (10 * (d + 1)) (some ([], 1)) (fun k hk => ih k (i + 1) (by omega) (by omega) hk hb) (L.getD i []).length k 0 (by omega) (by omega) (by omega)
                rw [show ((0 : Nat) : Int) = 0 from rfl, List.drop_zero, hs, if_neg (by simp)] at h
                exact h
            · rw [if_neg he]
        have h := fm_l0 L hL 800 (some ([], 1)) (fun k hk => by
          have := hl1 L.length k 0 (by omega) (by omega) (by omega) (by simpa using hbr)
          exact this) L.length k 0 (by omega) (by omega) (by omega)
        rw [show ((0 : Nat) : Int) = 0 from rfl, List.drop_zero, hlb, if_neg (by simp)] at h
        rw [if_pos rfl, h]
      | false =>
        have hrow : ∀ m, m ∈ L → m.length = (L.getD 0 []).length ∧ sideB m = false := by
          intro m hm
          have := List.any_eq_false.1 hbr m hm
          unfold badRow at this
          simp at this
          exact this
        have hn := h3 _ (mem_getD ([] : List Int) L 0 (by omega))
        have e3 : ∀ k, 500 ≤ k → verditerref06_FromMarks.l3 k L [] 0 = some (fromR L (L.getD 0 []).length 0 []) := fun k hk => by
          have := fm_l3 L hl.1 hL (L.getD 0 []).length hn hrow (L.getD 0 []).length k 0 [] (by omega) rfl (by omega)
          exact this
        have e1 : ∀ k, 1200 ≤ k → verditerref06_FromMarks.l1 k L 0 = some (fromR L (L.getD 0 []).length 0 []) := fun k hk => by
          have := fm_l1 L hL h3 500 _ e3 L.length k 0 (by omega) (by omega) (by omega)
          rw [show ((0 : Nat) : Int) = 0 from rfl, List.drop_zero, hbr, if_neg (by simp)] at this
          exact this
        have h := fm_l0 L hL 1200 _ e1 L.length k 0 (by omega) (by omega) (by omega)
        rw [show ((0 : Nat) : Int) = 0 from rfl, List.drop_zero, hlb, if_neg (by simp)] at h
        rw [if_neg (by simp), h]
end Go.Proofs.Ytdbeochifofdoaa.X
end
