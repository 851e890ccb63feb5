/- The law WeighMarks of the given program: the marks of the lots; the plan is made of them again.
Its conditions: none beyond the statement's own. Part 5 of 6 of the proof. -/
import Derived.Test.YtdbeochifofdoaaKH3
section
-- Written by a program of this session (wip/hook.py, which runs the kit's print.py with contracts proved by hand). Not trusted: Lean checks it.
namespace Go.Proofs.Ytdbeochifofdoaa.X
open Go.RowKit Go.Proofs.YtdbeochifofdoaaW.PrintWords Go.Proofs.YtdbeochifofdoaaW.PrintLast Go.Proofs.YtdbeochifofdoaaW.PrintMore
attribute [local go_sem] max2_int min2_int max_two min_two max_three min_three max_four min_four   -- for this text's walks alone
set_option linter.unusedVariables false
set_option linter.unusedSimpArgs false

/-! ### verditerref06_tells: function 62 -/
mutual
def verditerref06_tells.l0 : Nat → Int → List (S53) → Int → Option (Bool)
  | 0, _, _, _ => none
  | k + 1, x0, x1, x5 => if x5 < x0 then ((verditerref06_mark.f k x1 x5).bind fun t219 => ((verditerref06_isBlank.f k t219).bind fun t222 => (if t222 = true then (some false) else (verditerref06_tells.l1 k x0 x1 x5 t219 0)))) else (some true)
def verditerref06_tells.l1 : Nat → Int → List (S53) → Int → List Int → Int → Option (Bool)
  | 0, _, _, _, _, _ => none
  | k + 1, x0, x1, x5, x6, x7 => if x7 < x5 then ((verditerref06_mark.f k x1 x7).bind fun t223 => ((verditerref06_SameInts.f k x6 t223).bind fun t226 => (if t226 = true then (some false) else ((verditerref06_mark.f k x1 x7).bind fun t227 => ((verditerref06_times.f k t227 (-1)).bind fun t230 => ((verditerref06_SameInts.f k x6 t230).bind fun t233 => (if t233 = true then (some false) else (verditerref06_tells.l1 k x0 x1 x5 x6 (wrap64 (x7 + 1)))))))))) else (verditerref06_tells.l0 k x0 x1 (wrap64 (x5 + 1)))
end
def verditerref06_tells.f (k : Nat) (a0 : Int) (l1 : List (S53)) : Option (Bool) := verditerref06_tells.l0 k a0 l1 0
theorem verditerref06_tells.mono_l : ∀ k, (∀ y0 y1 y2, LeO (verditerref06_tells.l0 k y0 y1 y2) (verditerref06_tells.l0 (k + 1) y0 y1 y2)) ∧ (∀ y0 y1 y2 y3 y4, LeO (verditerref06_tells.l1 k y0 y1 y2 y3 y4) (verditerref06_tells.l1 (k + 1) y0 y1 y2 y3 y4))
  | 0 => ⟨fun _ _ _ r h => by simp [verditerref06_tells.l0] at h, fun _ _ _ _ _ r h => by simp [verditerref06_tells.l1] at h⟩
  | k + 1 => by
    obtain ⟨ih0, ih1⟩ := verditerref06_tells.mono_l k
    refine ⟨?_, ?_⟩
    · intro y0 y1 y2
      unfold verditerref06_tells.l0
      repeat' first
      | (with_reducible exact ih0 _ _ _)
      | (with_reducible exact ih1 _ _ _ _ _)
      | (with_reducible exact verditerref06_SameInts.mono _ _ _)
      | (with_reducible exact verditerref06_isBlank.mono _ _)
      | (with_reducible exact verditerref06_mark.mono _ _ _)
      | (with_reducible exact verditerref06_times.mono _ _ _)
      | (with_reducible exact LeO.refl _)
      | (with_reducible exact LeO.none _)
      | (with_reducible refine LeO.ite ?_ ?_)
      | (with_reducible refine LeO.bind ?_ (fun _ => ?_))
      | exact ih0 _ _ _
      | exact ih1 _ _ _ _ _
      | exact verditerref06_SameInts.mono _ _ _
      | exact verditerref06_isBlank.mono _ _
      | exact verditerref06_mark.mono _ _ _
      | exact verditerref06_times.mono _ _ _
      | exact LeO.none _
      | refine LeO.ite ?_ ?_
      | refine LeO.bind ?_ (fun _ => ?_)
    · intro y0 y1 y2 y3 y4
      unfold verditerref06_tells.l1
      repeat' first
      | (with_reducible exact ih0 _ _ _)
      | (with_reducible exact ih1 _ _ _ _ _)
      | (with_reducible exact verditerref06_SameInts.mono _ _ _)
      | (with_reducible exact verditerref06_isBlank.mono _ _)
      | (with_reducible exact verditerref06_mark.mono _ _ _)
      | (with_reducible exact verditerref06_times.mono _ _ _)
      | (with_reducible exact LeO.refl _)
      | (with_reducible exact LeO.none _)
      | (with_reducible refine LeO.ite ?_ ?_)
      | (with_reducible refine LeO.bind ?_ (fun _ => ?_))
      | exact ih0 _ _ _
      | exact ih1 _ _ _ _ _
      | exact verditerref06_SameInts.mono _ _ _
      | exact verditerref06_isBlank.mono _ _
      | exact verditerref06_mark.mono _ _ _
      | exact verditerref06_times.mono _ _ _
      | exact LeO.none _
      | refine LeO.ite ?_ ?_
      | refine LeO.bind ?_ (fun _ => ?_)
theorem verditerref06_tells.mono : ∀ a0 a1 k, LeO (verditerref06_tells.f k a0 a1) (verditerref06_tells.f (k + 1) a0 a1) := by
  intro a0 a1 k
  obtain ⟨ih0, ih1⟩ := verditerref06_tells.mono_l k
  unfold verditerref06_tells.f
  repeat' first
      | (with_reducible exact ih0 _ _ _)
      | (with_reducible exact ih1 _ _ _ _ _)
      | (with_reducible exact verditerref06_SameInts.mono _ _ _)
      | (with_reducible exact verditerref06_isBlank.mono _ _)
      | (with_reducible exact verditerref06_mark.mono _ _ _)
      | (with_reducible exact verditerref06_times.mono _ _ _)
      | (with_reducible exact LeO.refl _)
      | (with_reducible exact LeO.none _)
      | (with_reducible refine LeO.ite ?_ ?_)
      | (with_reducible refine LeO.bind ?_ (fun _ => ?_))
      | exact ih0 _ _ _
      | exact ih1 _ _ _ _ _
      | exact verditerref06_SameInts.mono _ _ _
      | exact verditerref06_isBlank.mono _ _
      | exact verditerref06_mark.mono _ _ _
      | exact verditerref06_times.mono _ _ _
      | exact LeO.none _
      | refine LeO.ite ?_ ?_
      | refine LeO.bind ?_ (fun _ => ?_)
set_option maxHeartbeats 8000000 in
set_option maxRecDepth 100000 in
theorem verditerref06_tells.calls (k : Nat) (a0 : Int) (A1 : Option Addr) (c1 : Nat) (l1 : List (S53)) (r : Bool) (w : World) (hr1 : Kd.C k53 w A1 l1.length l1) (hc1 : l1.length ≤ c1) (h : verditerref06_tells.f k a0 l1 = some r) :
    Calls Try.prog 62 #[.int .i64 a0, .slice A1 l1.length c1] w fun e w' => e = .returned (.bool r) ∧ Below w.heap.size w w' := by
  have HR1 := Aside0.mk hr1
  have HC1 := Aside0.mk hc1
  clear hr1 hc1
  have HB := Aside0.mk (Below.refl w.heap.size w)
  have H : (verditerref06_tells.l0 k a0 l1 0) = some r := h
  clear h
  have H' := Aside0.mk H
  clear H
  go_enter Try.func62, Try.ntmps62
  go_wp2
  go_loopg [5] k (fun kq v5 w' => ∃ (x5_1 : Int), v5 = .int .i64 x5_1 ∧ Aside0 (verditerref06_tells.l0 kq a0 l1 x5_1 = some r) ∧ Aside0 (kq ≤ k) ∧ Aside0 (Below w.heap.size w w'))
  case atStart => exact ⟨(0), (by first | rfl | (simp; done) | (simp [*]; done)), H', ⟨Nat.le_refl _⟩, ⟨by repeat (first | (with_reducible first | exact HB.out | apply below_alloc | apply pw_below_drewN | apply below_drew1) | exact HB.out)⟩⟩
  case round =>
    clear H'
    try clear c1
    try clear p2
    obtain ⟨x5_1, rfl, HA, HK1, HB⟩ := hrel
    cases gk with
    | zero => exact absurd HA.out (by simp [verditerref06_tells.l0])
    | succ k1 =>
      have H := HA.out
      clear HA
      simp only [verditerref06_tells.l0] at H
      by_cases c3 : x5_1 < a0
      · rw [if_pos c3] at H
        have c3b0 : decide (x5_1 < a0) = true := decide_eq_true c3
        clear c3
        replace H := Option.bind_eq_some_iff.mp H
        obtain ⟨t219, A40, H⟩ := H
        replace H : ((verditerref06_isBlank.f k1 t219).bind fun t222 => (if t222 = true then (some false) else (verditerref06_tells.l1 k1 a0 l1 x5_1 t219 0))) = some r := H
        have A4 := Aside0.mk A40
        clear A40
        replace H := Option.bind_eq_some_iff.mp H
        obtain ⟨t222, A50, H⟩ := H
        replace H : (if t222 = true then (some false) else (verditerref06_tells.l1 k1 a0 l1 x5_1 t219 0)) = some r := H
        have A5 := Aside0.mk A50
        clear A50
        by_cases c6 : t222 = true
        · subst c6
          have H1 : (some false) = some r := by rw [if_pos rfl] at H; exact H
          clear H
          have H := H1
          clear H1
          obtain rfl := Option.some.inj H
          go_wp2_with (first | ((with_reducible refine gate_callee (f := 80) rfl ?_); refine goesL_ (some 15) rfl rfl Try.func80 (by kernel_rfl) rfl #[.slice A1 l1.length c1, .int .i64 x5_1] rfl (by (try simp only [List.map_toArray, List.map_cons, List.map_nil]); first | done | rfl | (simp only [List.length_drop, List.length_take]; rfl)) ?_; (with_reducible refine (verditerref06_mark.calls k1 _ _ l1 x5_1 t219 _ ?side1 ?side2 A4.out).mono ?_); (case side1 => repeat (first | exact (Kd.C_below HR1.out HB.out) | (with_reducible refine Kd.C_alloc ?_ _) | (with_reducible refine Kd.C_drewN ?_ _) | (with_reducible refine Kd.C_drew ?_))); (case side2 => exact HC1.out); rintro e w7 ⟨v220, rfl, ho0, hb⟩; refine ⟨_, rfl, ?_⟩; have n0_ := Aside0.mk (Kd.R_lower ho0 (below_size (by repeat (first | (with_reducible first | exact HB.out | apply below_alloc | apply pw_below_drewN | apply below_drew1) | exact HB.out)))); have n1_ := Aside0.mk (below_step (by repeat (first | (with_reducible first | exact HB.out | apply below_alloc | apply pw_below_drewN | apply below_drew1) | exact HB.out)) hb); clear HB; have HO221 := n0_; have HB := n1_; clear n0_ n1_; (try clear hb); (try clear hb2); (try clear hk); (try clear hi); (try clear ho0); obtain ⟨Ao8, co8, eo8⟩ := Kd.R_slice HO221.out; subst eo8) | ((with_reducible refine gate_callee (f := 81) rfl ?_); refine goesL_ (some 17) rfl rfl Try.func81 (by kernel_rfl) rfl #[.slice Ao8 t219.length co8] rfl (by (try simp only [List.map_toArray, List.map_cons, List.map_nil]); first | done | rfl | (simp only [List.length_drop, List.length_take]; rfl)) ?_; (with_reducible refine (verditerref06_isBlank.calls k1 _ _ t219 true _ ?side1 ?side2 A5.out).mono ?_); (case side1 => repeat (first | exact (Kd.R_reads' HO221.out).2.2 | (with_reducible refine Kd.C_alloc ?_ _) | (with_reducible refine Kd.C_drewN ?_ _) | (with_reducible refine Kd.C_drew ?_))); (case side2 => exact (Kd.R_reads' HO221.out).2.1); rintro e w' ⟨rfl, ⟨nd, rfl⟩⟩; refine ⟨_, rfl, ?_⟩))
          go_ret
          exact ⟨by first | rfl | (simp [errW_none, errW_some] <;> rfl) | (simp [*, errW_none, errW_some] <;> rfl), by repeat (first | (with_reducible first | exact HB.out | apply below_alloc | apply pw_below_drewN | apply below_drew1) | exact HB.out)⟩
        · replace c6 := Bool.eq_false_iff.mpr c6
          subst c6
          have H1 : (verditerref06_tells.l1 k1 a0 l1 x5_1 t219 0) = some r := by rw [if_neg (show ¬ (false = true) by decide)] at H; exact H
          clear H
          have H := H1
          clear H1
          have H' := Aside0.mk H
          clear H
          go_wp2_with (first | ((with_reducible refine gate_callee (f := 80) rfl ?_); refine goesL_ (some 15) rfl rfl Try.func80 (by kernel_rfl) rfl #[.slice A1 l1.length c1, .int .i64 x5_1] rfl (by (try simp only [List.map_toArray, List.map_cons, List.map_nil]); first | done | rfl | (simp only [List.length_drop, List.length_take]; rfl)) ?_; (with_reducible refine (verditerref06_mark.calls k1 _ _ l1 x5_1 t219 _ ?side1 ?side2 A4.out).mono ?_); (case side1 => repeat (first | exact (Kd.C_below HR1.out HB.out) | (with_reducible refine Kd.C_alloc ?_ _) | (with_reducible refine Kd.C_drewN ?_ _) | (with_reducible refine Kd.C_drew ?_))); (case side2 => exact HC1.out); rintro e w9 ⟨v220, rfl, ho0, hb⟩; refine ⟨_, rfl, ?_⟩; have n0_ := Aside0.mk (Kd.R_lower ho0 (below_size (by repeat (first | (with_reducible first | exact HB.out | apply below_alloc | apply pw_below_drewN | apply below_drew1) | exact HB.out)))); have n1_ := Aside0.mk (below_step (by repeat (first | (with_reducible first | exact HB.out | apply below_alloc | apply pw_below_drewN | apply below_drew1) | exact HB.out)) hb); clear HB; have HO221 := n0_; have HB := n1_; clear n0_ n1_; (try clear hb); (try clear hb2); (try clear hk); (try clear hi); (try clear ho0); obtain ⟨Ao10, co10, eo10⟩ := Kd.R_slice HO221.out; subst eo10) | ((with_reducible refine gate_callee (f := 81) rfl ?_); refine goesL_ (some 17) rfl rfl Try.func81 (by kernel_rfl) rfl #[.slice Ao10 t219.length co10] rfl (by (try simp only [List.map_toArray, List.map_cons, List.map_nil]); first | done | rfl | (simp only [List.length_drop, List.length_take]; rfl)) ?_; (with_reducible refine (verditerref06_isBlank.calls k1 _ _ t219 false _ ?side1 ?side2 A5.out).mono ?_); (case side1 => repeat (first | exact (Kd.R_reads' HO221.out).2.2 | (with_reducible refine Kd.C_alloc ?_ _) | (with_reducible refine Kd.C_drewN ?_ _) | (with_reducible refine Kd.C_drew ?_))); (case side2 => exact (Kd.R_reads' HO221.out).2.1); rintro e w' ⟨rfl, ⟨nd, rfl⟩⟩; refine ⟨_, rfl, ?_⟩))
          go_loopg [7] k1 (fun kq v7 w' => ∃ (x7_2 : Int), v7 = .int .i64 x7_2 ∧ Aside0 (verditerref06_tells.l1 kq a0 l1 x5_1 t219 x7_2 = some r) ∧ Aside0 (kq ≤ k1) ∧ Aside0 (Kd.R (Kd.int .i64) 3 w' w.heap.size (fun _ => True) (.slice Ao10 t219.length co10) t219) ∧ Aside0 (Below w.heap.size w w'))
          case atStart => exact ⟨(0), (by first | rfl | (simp; done) | (simp [*]; done)), H', ⟨Nat.le_refl _⟩, ⟨by (with_reducible repeat (first | apply Kd.R_alloc | apply Kd.R_drewN | apply Kd.R_drew)); exact HO221.out⟩, ⟨by repeat (first | (with_reducible first | exact HB.out | apply below_alloc | apply pw_below_drewN | apply below_drew1) | exact HB.out)⟩⟩
          case round =>
            clear H'
            try clear c1
            try clear p2
            try clear c3
            try clear c3b0
            try clear c6
            try clear c8
            try clear p2
            obtain ⟨x7_2, rfl, HA, HK2, HO_6, HB⟩ := hrel
            cases gk with
            | zero => exact absurd HA.out (by simp [verditerref06_tells.l1])
            | succ k2 =>
              have H := HA.out
              clear HA
              simp only [verditerref06_tells.l1] at H
              by_cases c11 : x7_2 < x5_1
              · rw [if_pos c11] at H
                have c11b0 : decide (x7_2 < x5_1) = true := decide_eq_true c11
                clear c11
                replace H := Option.bind_eq_some_iff.mp H
                obtain ⟨t223, A120, H⟩ := H
                replace H : ((verditerref06_SameInts.f k2 t219 t223).bind fun t226 => (if t226 = true then (some false) else ((verditerref06_mark.f k2 l1 x7_2).bind fun t227 => ((verditerref06_times.f k2 t227 (-1)).bind fun t230 => ((verditerref06_SameInts.f k2 t219 t230).bind fun t233 => (if t233 = true then (some false) else (verditerref06_tells.l1 k2 a0 l1 x5_1 t219 (wrap64 (x7_2 + 1))))))))) = some r := H
                have A12 := Aside0.mk A120
                clear A120
                replace H := Option.bind_eq_some_iff.mp H
                obtain ⟨t226, A130, H⟩ := H
                replace H : (if t226 = true then (some false) else ((verditerref06_mark.f k2 l1 x7_2).bind fun t227 => ((verditerref06_times.f k2 t227 (-1)).bind fun t230 => ((verditerref06_SameInts.f k2 t219 t230).bind fun t233 => (if t233 = true then (some false) else (verditerref06_tells.l1 k2 a0 l1 x5_1 t219 (wrap64 (x7_2 + 1)))))))) = some r := H
                have A13 := Aside0.mk A130
                clear A130
                by_cases c14 : t226 = true
                · subst c14
                  have H1 : (some false) = some r := by rw [if_pos rfl] at H; exact H
                  clear H
                  have H := H1
                  clear H1
                  obtain rfl := Option.some.inj H
                  go_wp2_with (first | ((with_reducible refine gate_callee (f := 80) rfl ?_); refine goesL_ (some 26) rfl rfl Try.func80 (by kernel_rfl) rfl #[.slice A1 l1.length c1, .int .i64 x7_2] rfl (by (try simp only [List.map_toArray, List.map_cons, List.map_nil]); first | done | rfl | (simp only [List.length_drop, List.length_take]; rfl)) ?_; (with_reducible refine (verditerref06_mark.calls k2 _ _ l1 x7_2 t223 _ ?side1 ?side2 A12.out).mono ?_); (case side1 => repeat (first | exact (Kd.C_below HR1.out HB.out) | (with_reducible refine Kd.C_alloc ?_ _) | (with_reducible refine Kd.C_drewN ?_ _) | (with_reducible refine Kd.C_drew ?_))); (case side2 => exact HC1.out); rintro e w15 ⟨v224, rfl, ho0, hb⟩; refine ⟨_, rfl, ?_⟩; have n0_ := Aside0.mk (Kd.R_elder' (by (with_reducible repeat (first | apply Kd.R_alloc | apply Kd.R_drewN | apply Kd.R_drew)); exact HO_6.out) (Kd.R_base ho0) hb); have n1_ := Aside0.mk (Kd.R_lower (Kd.R_new' ho0 (Kd.R_lt (by (with_reducible repeat (first | apply Kd.R_alloc | apply Kd.R_drewN | apply Kd.R_drew)); exact HO_6.out))) (below_size (by repeat (first | (with_reducible first | exact HB.out | apply below_alloc | apply pw_below_drewN | apply below_drew1) | exact HB.out)))); have n2_ := Aside0.mk (below_step (by repeat (first | (with_reducible first | exact HB.out | apply below_alloc | apply pw_below_drewN | apply below_drew1) | exact HB.out)) hb); clear HO_6; clear HB; have HO_6 := n0_; have HO225 := n1_; have HB := n2_; clear n0_ n1_ n2_; (try clear hb); (try clear hb2); (try clear hk); (try clear hi); (try clear ho0); obtain ⟨Ao16, co16, eo16⟩ := Kd.R_slice HO225.out; subst eo16) | ((with_reducible refine gate_callee (f := 60) rfl ?_); refine goesL_ (some 27) rfl rfl Try.func60 (by kernel_rfl) rfl #[.slice Ao10 t219.length co10, .slice Ao16 t223.length co16] rfl (by (try simp only [List.map_toArray, List.map_cons, List.map_nil]); first | done | rfl | (simp only [List.length_drop, List.length_take]; rfl)) ?_; (with_reducible refine (verditerref06_SameInts.calls k2 _ _ t219 _ _ t223 true _ ?side1 ?side2 ?side3 ?side4 A13.out).mono ?_); (case side1 => repeat (first | exact (Kd.R_reads' HO_6.out).2.2 | (with_reducible refine Kd.C_alloc ?_ _) | (with_reducible refine Kd.C_drewN ?_ _) | (with_reducible refine Kd.C_drew ?_))); (case side2 => exact (Kd.R_reads' HO_6.out).2.1); (case side3 => repeat (first | exact (Kd.R_reads' HO225.out).2.2 | (with_reducible refine Kd.C_alloc ?_ _) | (with_reducible refine Kd.C_drewN ?_ _) | (with_reducible refine Kd.C_drew ?_))); (case side4 => exact (Kd.R_reads' HO225.out).2.1); rintro e w' ⟨rfl, ⟨nd, rfl⟩⟩; refine ⟨_, rfl, ?_⟩))
                  go_ret
                  exact ⟨by first | rfl | (simp [errW_none, errW_some] <;> rfl) | (simp [*, errW_none, errW_some] <;> rfl), by repeat (first | (with_reducible first | exact HB.out | apply below_alloc | apply pw_below_drewN | apply below_drew1) | exact HB.out)⟩
                · replace c14 := Bool.eq_false_iff.mpr c14
                  subst c14
                  have H1 : ((verditerref06_mark.f k2 l1 x7_2).bind fun t227 => ((verditerref06_times.f k2 t227 (-1)).bind fun t230 => ((verditerref06_SameInts.f k2 t219 t230).bind fun t233 => (if t233 = true then (some false) else (verditerref06_tells.l1 k2 a0 l1 x5_1 t219 (wrap64 (x7_2 + 1))))))) = some r := by rw [if_neg (show ¬ (false = true) by decide)] at H; exact H
                  clear H
                  have H := H1
                  clear H1
                  replace H := Option.bind_eq_some_iff.mp H
                  obtain ⟨t227, A170, H⟩ := H
                  replace H : ((verditerref06_times.f k2 t227 (-1)).bind fun t230 => ((verditerref06_SameInts.f k2 t219 t230).bind fun t233 => (if t233 = true then (some false) else (verditerref06_tells.l1 k2 a0 l1 x5_1 t219 (wrap64 (x7_2 + 1)))))) = some r := H
                  have A17 := Aside0.mk A170
                  clear A170
                  replace H := Option.bind_eq_some_iff.mp H
                  obtain ⟨t230, A180, H⟩ := H
                  replace H : ((verditerref06_SameInts.f k2 t219 t230).bind fun t233 => (if t233 = true then (some false) else (verditerref06_tells.l1 k2 a0 l1 x5_1 t219 (wrap64 (x7_2 + 1))))) = some r := H
                  have A18 := Aside0.mk A180
                  clear A180
                  replace H := Option.bind_eq_some_iff.mp H
                  obtain ⟨t233, A190, H⟩ := H
                  replace H : (if t233 = true then (some false) else (verditerref06_tells.l1 k2 a0 l1 x5_1 t219 (wrap64 (x7_2 + 1)))) = some r := H
                  have A19 := Aside0.mk A190
                  clear A190
                  by_cases c20 : t233 = true
                  · subst c20
                    have H1 : (some false) = some r := by rw [if_pos rfl] at H; exact H
                    clear H
                    have H := H1
                    clear H1
                    obtain rfl := Option.some.inj H
                    go_wp2_with (first | ((with_reducible refine gate_callee (f := 80) rfl ?_); refine goesL_ (some 26) rfl rfl Try.func80 (by kernel_rfl) rfl #[.slice A1 l1.length c1, .int .i64 x7_2] rfl (by (try simp only [List.map_toArray, List.map_cons, List.map_nil]); first | done | rfl | (simp only [List.length_drop, List.length_take]; rfl)) ?_; (with_reducible refine (verditerref06_mark.calls k2 _ _ l1 x7_2 t223 _ ?side1 ?side2 A12.out).mono ?_); (case side1 => repeat (first | exact (Kd.C_below HR1.out HB.out) | (with_reducible refine Kd.C_alloc ?_ _) | (with_reducible refine Kd.C_drewN ?_ _) | (with_reducible refine Kd.C_drew ?_))); (case side2 => exact HC1.out); rintro e w21 ⟨v224, rfl, ho0, hb⟩; refine ⟨_, rfl, ?_⟩; have n0_ := Aside0.mk (Kd.R_elder' (by (with_reducible repeat (first | apply Kd.R_alloc | apply Kd.R_drewN | apply Kd.R_drew)); exact HO_6.out) (Kd.R_base ho0) hb); have n1_ := Aside0.mk (Kd.R_lower (Kd.R_new' ho0 (Kd.R_lt (by (with_reducible repeat (first | apply Kd.R_alloc | apply Kd.R_drewN | apply Kd.R_drew)); exact HO_6.out))) (below_size (by repeat (first | (with_reducible first | exact HB.out | apply below_alloc | apply pw_below_drewN | apply below_drew1) | exact HB.out)))); have n2_ := Aside0.mk (below_step (by repeat (first | (with_reducible first | exact HB.out | apply below_alloc | apply pw_below_drewN | apply below_drew1) | exact HB.out)) hb); clear HO_6; clear HB; have HO_6 := n0_; have HO225 := n1_; have HB := n2_; clear n0_ n1_ n2_; (try clear hb); (try clear hb2); (try clear hk); (try clear hi); (try clear ho0); obtain ⟨Ao22, co22, eo22⟩ := Kd.R_slice HO225.out; subst eo22) | ((with_reducible refine gate_callee (f := 60) rfl ?_); refine goesL_ (some 27) rfl rfl Try.func60 (by kernel_rfl) rfl #[.slice Ao10 t219.length co10, .slice Ao22 t223.length co22] rfl (by (try simp only [List.map_toArray, List.map_cons, List.map_nil]); first | done | rfl | (simp only [List.length_drop, List.length_take]; rfl)) ?_; (with_reducible refine (verditerref06_SameInts.calls k2 _ _ t219 _ _ t223 false _ ?side1 ?side2 ?side3 ?side4 A13.out).mono ?_); (case side1 => repeat (first | exact (Kd.R_reads' HO_6.out).2.2 | (with_reducible refine Kd.C_alloc ?_ _) | (with_reducible refine Kd.C_drewN ?_ _) | (with_reducible refine Kd.C_drew ?_))); (case side2 => exact (Kd.R_reads' HO_6.out).2.1); (case side3 => repeat (first | exact (Kd.R_reads' HO225.out).2.2 | (with_reducible refine Kd.C_alloc ?_ _) | (with_reducible refine Kd.C_drewN ?_ _) | (with_reducible refine Kd.C_drew ?_))); (case side4 => exact (Kd.R_reads' HO225.out).2.1); rintro e w' ⟨rfl, ⟨nd, rfl⟩⟩; refine ⟨_, rfl, ?_⟩) | (go_at_call 80; (with_reducible refine (verditerref06_mark.calls k2 _ _ l1 x7_2 t227 _ ?side1 ?side2 A17.out).mono ?_); (case side1 => repeat (first | exact (Kd.C_below HR1.out (by repeat (first | (with_reducible first | exact HB.out | apply below_alloc | apply pw_below_drewN | apply below_drew1) | exact HB.out))) | (with_reducible refine Kd.C_alloc ?_ _) | (with_reducible refine Kd.C_drewN ?_ _) | (with_reducible refine Kd.C_drew ?_))); (case side2 => exact HC1.out); rintro e w23 ⟨v228, rfl, ho0, hb⟩; have n0_ := Aside0.mk (Kd.R_elder' (by (with_reducible repeat (first | apply Kd.R_alloc | apply Kd.R_drewN | apply Kd.R_drew)); exact HO_6.out) (Kd.R_base ho0) hb); have n1_ := Aside0.mk (Kd.R_elder' (by (with_reducible repeat (first | apply Kd.R_alloc | apply Kd.R_drewN | apply Kd.R_drew)); exact HO225.out) (Kd.R_base ho0) hb); have n2_ := Aside0.mk (Kd.R_lower (Kd.R_new' (Kd.R_new' ho0 (Kd.R_lt (by (with_reducible repeat (first | apply Kd.R_alloc | apply Kd.R_drewN | apply Kd.R_drew)); exact HO_6.out))) (Kd.R_lt (by (with_reducible repeat (first | apply Kd.R_alloc | apply Kd.R_drewN | apply Kd.R_drew)); exact HO225.out))) (below_size (by repeat (first | (with_reducible first | exact HB.out | apply below_alloc | apply pw_below_drewN | apply below_drew1) | exact HB.out)))); have n3_ := Aside0.mk (below_step (by repeat (first | (with_reducible first | exact HB.out | apply below_alloc | apply pw_below_drewN | apply below_drew1) | exact HB.out)) hb); clear HO_6; clear HO225; clear HB; have HO_6 := n0_; have HO225 := n1_; have HO229 := n2_; have HB := n3_; clear n0_ n1_ n2_ n3_; (try clear hb); (try clear hb2); (try clear hk); (try clear hi); (try clear ho0); obtain ⟨Ao24, co24, eo24⟩ := Kd.R_slice HO229.out; subst eo24) | (go_at_call 79; (with_reducible refine (verditerref06_times.calls k2 _ _ t227 (-1) t230 _ ?side1 ?side2 A18.out).mono ?_); (case side1 => repeat (first | exact (Kd.R_reads' HO229.out).2.2 | (with_reducible refine Kd.C_alloc ?_ _) | (with_reducible refine Kd.C_drewN ?_ _) | (with_reducible refine Kd.C_drew ?_))); (case side2 => exact (Kd.R_reads' HO229.out).2.1); rintro e w25 ⟨v231, rfl, ho0, hb⟩; have n0_ := Aside0.mk (Kd.R_elder' (by (with_reducible repeat (first | apply Kd.R_alloc | apply Kd.R_drewN | apply Kd.R_drew)); exact HO_6.out) (Kd.R_base ho0) hb); have n1_ := Aside0.mk (Kd.R_elder' (by (with_reducible repeat (first | apply Kd.R_alloc | apply Kd.R_drewN | apply Kd.R_drew)); exact HO225.out) (Kd.R_base ho0) hb); have n2_ := Aside0.mk (Kd.R_elder' (by (with_reducible repeat (first | apply Kd.R_alloc | apply Kd.R_drewN | apply Kd.R_drew)); exact HO229.out) (Kd.R_base ho0) hb); have n3_ := Aside0.mk (Kd.R_lower (Kd.R_new' (Kd.R_new' (Kd.R_new' ho0 (Kd.R_lt (by (with_reducible repeat (first | apply Kd.R_alloc | apply Kd.R_drewN | apply Kd.R_drew)); exact HO_6.out))) (Kd.R_lt (by (with_reducible repeat (first | apply Kd.R_alloc | apply Kd.R_drewN | apply Kd.R_drew)); exact HO225.out))) (Kd.R_lt (by (with_reducible repeat (first | apply Kd.R_alloc | apply Kd.R_drewN | apply Kd.R_drew)); exact HO229.out))) (below_size (by repeat (first | (with_reducible first | exact HB.out | apply below_alloc | apply pw_below_drewN | apply below_drew1) | exact HB.out)))); have n4_ := Aside0.mk (below_step (by repeat (first | (with_reducible first | exact HB.out | apply below_alloc | apply pw_below_drewN | apply below_drew1) | exact HB.out)) hb); clear HO_6; clear HO225; clear HO229; clear HB; have HO_6 := n0_; have HO225 := n1_; have HO229 := n2_; have HO232 := n3_; have HB := n4_; clear n0_ n1_ n2_ n3_ n4_; (try clear hb); (try clear hb2); (try clear hk); (try clear hi); (try clear ho0); obtain ⟨Ao26, co26, eo26⟩ := Kd.R_slice HO232.out; subst eo26) | (go_at_call 60; (with_reducible refine (verditerref06_SameInts.calls k2 _ _ t219 _ _ t230 true _ ?side1 ?side2 ?side3 ?side4 A19.out).mono ?_); (case side1 => repeat (first | exact (Kd.R_reads' HO_6.out).2.2 | (with_reducible refine Kd.C_alloc ?_ _) | (with_reducible refine Kd.C_drewN ?_ _) | (with_reducible refine Kd.C_drew ?_))); (case side2 => exact (Kd.R_reads' HO_6.out).2.1); (case side3 => repeat (first | exact (Kd.R_reads' HO232.out).2.2 | (with_reducible refine Kd.C_alloc ?_ _) | (with_reducible refine Kd.C_drewN ?_ _) | (with_reducible refine Kd.C_drew ?_))); (case side4 => exact (Kd.R_reads' HO232.out).2.1); rintro e w' ⟨rfl, ⟨nd, rfl⟩⟩))
                    go_ret
                    exact ⟨by first | rfl | (simp [errW_none, errW_some] <;> rfl) | (simp [*, errW_none, errW_some] <;> rfl), by repeat (first | (with_reducible first | exact HB.out | apply below_alloc | apply pw_below_drewN | apply below_drew1) | exact HB.out)⟩
                  · replace c20 := Bool.eq_false_iff.mpr c20
                    subst c20
                    have H1 : (verditerref06_tells.l1 k2 a0 l1 x5_1 t219 (wrap64 (x7_2 + 1))) = some r := by rw [if_neg (show ¬ (false = true) by decide)] at H; exact H
                    clear H
                    have H := H1
                    clear H1
                    have H' := Aside0.mk H
                    clear H
                    go_wp2_with (first | ((with_reducible refine gate_callee (f := 80) rfl ?_); refine goesL_ (some 26) rfl rfl Try.func80 (by kernel_rfl) rfl #[.slice A1 l1.length c1, .int .i64 x7_2] rfl (by (try simp only [List.map_toArray, List.map_cons, List.map_nil]); first | done | rfl | (simp only [List.length_drop, List.length_take]; rfl)) ?_; (with_reducible refine (verditerref06_mark.calls k2 _ _ l1 x7_2 t223 _ ?side1 ?side2 A12.out).mono ?_); (case side1 => repeat (first | exact (Kd.C_below HR1.out HB.out) | (with_reducible refine Kd.C_alloc ?_ _) | (with_reducible refine Kd.C_drewN ?_ _) | (with_reducible refine Kd.C_drew ?_))); (case side2 => exact HC1.out); rintro e w27 ⟨v224, rfl, ho0, hb⟩; refine ⟨_, rfl, ?_⟩; have n0_ := Aside0.mk (Kd.R_elder' (by (with_reducible repeat (first | apply Kd.R_alloc | apply Kd.R_drewN | apply Kd.R_drew)); exact HO_6.out) (Kd.R_base ho0) hb); have n1_ := Aside0.mk (Kd.R_lower (Kd.R_new' ho0 (Kd.R_lt (by (with_reducible repeat (first | apply Kd.R_alloc | apply Kd.R_drewN | apply Kd.R_drew)); exact HO_6.out))) (below_size (by repeat (first | (with_reducible first | exact HB.out | apply below_alloc | apply pw_below_drewN | apply below_drew1) | exact HB.out)))); have n2_ := Aside0.mk (below_step (by repeat (first | (with_reducible first | exact HB.out | apply below_alloc | apply pw_below_drewN | apply below_drew1) | exact HB.out)) hb); clear HO_6; clear HB; have HO_6 := n0_; have HO225 := n1_; have HB := n2_; clear n0_ n1_ n2_; (try clear hb); (try clear hb2); (try clear hk); (try clear hi); (try clear ho0); obtain ⟨Ao28, co28, eo28⟩ := Kd.R_slice HO225.out; subst eo28) | ((with_reducible refine gate_callee (f := 60) rfl ?_); refine goesL_ (some 27) rfl rfl Try.func60 (by kernel_rfl) rfl #[.slice Ao10 t219.length co10, .slice Ao28 t223.length co28] rfl (by (try simp only [List.map_toArray, List.map_cons, List.map_nil]); first | done | rfl | (simp only [List.length_drop, List.length_take]; rfl)) ?_; (with_reducible refine (verditerref06_SameInts.calls k2 _ _ t219 _ _ t223 false _ ?side1 ?side2 ?side3 ?side4 A13.out).mono ?_); (case side1 => repeat (first | exact (Kd.R_reads' HO_6.out).2.2 | (with_reducible refine Kd.C_alloc ?_ _) | (with_reducible refine Kd.C_drewN ?_ _) | (with_reducible refine Kd.C_drew ?_))); (case side2 => exact (Kd.R_reads' HO_6.out).2.1); (case side3 => repeat (first | exact (Kd.R_reads' HO225.out).2.2 | (with_reducible refine Kd.C_alloc ?_ _) | (with_reducible refine Kd.C_drewN ?_ _) | (with_reducible refine Kd.C_drew ?_))); (case side4 => exact (Kd.R_reads' HO225.out).2.1); rintro e w' ⟨rfl, ⟨nd, rfl⟩⟩; refine ⟨_, rfl, ?_⟩) | (go_at_call 80; (with_reducible refine (verditerref06_mark.calls k2 _ _ l1 x7_2 t227 _ ?side1 ?side2 A17.out).mono ?_); (case side1 => repeat (first | exact (Kd.C_below HR1.out (by repeat (first | (with_reducible first | exact HB.out | apply below_alloc | apply pw_below_drewN | apply below_drew1) | exact HB.out))) | (with_reducible refine Kd.C_alloc ?_ _) | (with_reducible refine Kd.C_drewN ?_ _) | (with_reducible refine Kd.C_drew ?_))); (case side2 => exact HC1.out); rintro e w29 ⟨v228, rfl, ho0, hb⟩; have n0_ := Aside0.mk (Kd.R_elder' (by (with_reducible repeat (first | apply Kd.R_alloc | apply Kd.R_drewN | apply Kd.R_drew)); exact HO_6.out) (Kd.R_base ho0) hb); have n1_ := Aside0.mk (Kd.R_elder' (by (with_reducible repeat (first | apply Kd.R_alloc | apply Kd.R_drewN | apply Kd.R_drew)); exact HO225.out) (Kd.R_base ho0) hb); have n2_ := Aside0.mk (Kd.R_lower (Kd.R_new' (Kd.R_new' ho0 (Kd.R_lt (by (with_reducible repeat (first | apply Kd.R_alloc | apply Kd.R_drewN | apply Kd.R_drew)); exact HO_6.out))) (Kd.R_lt (by (with_reducible repeat (first | apply Kd.R_alloc | apply Kd.R_drewN | apply Kd.R_drew)); exact HO225.out))) (below_size (by repeat (first | (with_reducible first | exact HB.out | apply below_alloc | apply pw_below_drewN | apply below_drew1) | exact HB.out)))); have n3_ := Aside0.mk (below_step (by repeat (first | (with_reducible first | exact HB.out | apply below_alloc | apply pw_below_drewN | apply below_drew1) | exact HB.out)) hb); clear HO_6; clear HO225; clear HB; have HO_6 := n0_; have HO225 := n1_; have HO229 := n2_; have HB := n3_; clear n0_ n1_ n2_ n3_; (try clear hb); (try clear hb2); (try clear hk); (try clear hi); (try clear ho0); obtain ⟨Ao30, co30, eo30⟩ := Kd.R_slice HO229.out; subst eo30) | (go_at_call 79; (with_reducible refine (verditerref06_times.calls k2 _ _ t227 (-1) t230 _ ?side1 ?side2 A18.out).mono ?_); (case side1 => repeat (first | exact (Kd.R_reads' HO229.out).2.2 | (with_reducible refine Kd.C_alloc ?_ _) | (with_reducible refine Kd.C_drewN ?_ _) | (with_reducible refine Kd.C_drew ?_))); (case side2 => exact (Kd.R_reads' HO229.out).2.1); rintro e w31 ⟨v231, rfl, ho0, hb⟩; have n0_ := Aside0.mk (Kd.R_elder' (by (with_reducible repeat (first | apply Kd.R_alloc | apply Kd.R_drewN | apply Kd.R_drew)); exact HO_6.out) (Kd.R_base ho0) hb); have n1_ := Aside0.mk (Kd.R_elder' (by (with_reducible repeat (first | apply Kd.R_alloc | apply Kd.R_drewN | apply Kd.R_drew)); exact HO225.out) (Kd.R_base ho0) hb); have n2_ := Aside0.mk (Kd.R_elder' (by (with_reducible repeat (first | apply Kd.R_alloc | apply Kd.R_drewN | apply Kd.R_drew)); exact HO229.out) (Kd.R_base ho0) hb); have n3_ := Aside0.mk (Kd.R_lower (Kd.R_new' (Kd.R_new' (Kd.R_new' ho0 (Kd.R_lt (by (with_reducible repeat (first | apply Kd.R_alloc | apply Kd.R_drewN | apply Kd.R_drew)); exact HO_6.out))) (Kd.R_lt (by (with_reducible repeat (first | apply Kd.R_alloc | apply Kd.R_drewN | apply Kd.R_drew)); exact HO225.out))) (Kd.R_lt (by (with_reducible repeat (first | apply Kd.R_alloc | apply Kd.R_drewN | apply Kd.R_drew)); exact HO229.out))) (below_size (by repeat (first | (with_reducible first | exact HB.out | apply below_alloc | apply pw_below_drewN | apply below_drew1) | exact HB.out)))); have n4_ := Aside0.mk (below_step (by repeat (first | (with_reducible first | exact HB.out | apply below_alloc | apply pw_below_drewN | apply below_drew1) | exact HB.out)) hb); clear HO_6; clear HO225; clear HO229; clear HB; have HO_6 := n0_; have HO225 := n1_; have HO229 := n2_; have HO232 := n3_; have HB := n4_; clear n0_ n1_ n2_ n3_ n4_; (try clear hb); (try clear hb2); (try clear hk); (try clear hi); (try clear ho0); obtain ⟨Ao32, co32, eo32⟩ := Kd.R_slice HO232.out; subst eo32) | (go_at_call 60; (with_reducible refine (verditerref06_SameInts.calls k2 _ _ t219 _ _ t230 false _ ?side1 ?side2 ?side3 ?side4 A19.out).mono ?_); (case side1 => repeat (first | exact (Kd.R_reads' HO_6.out).2.2 | (with_reducible refine Kd.C_alloc ?_ _) | (with_reducible refine Kd.C_drewN ?_ _) | (with_reducible refine Kd.C_drew ?_))); (case side2 => exact (Kd.R_reads' HO_6.out).2.1); (case side3 => repeat (first | exact (Kd.R_reads' HO232.out).2.2 | (with_reducible refine Kd.C_alloc ?_ _) | (with_reducible refine Kd.C_drewN ?_ _) | (with_reducible refine Kd.C_drew ?_))); (case side4 => exact (Kd.R_reads' HO232.out).2.1); rintro e w' ⟨rfl, ⟨nd, rfl⟩⟩))
                    go_roundg k2
                    case measure => have := HK1.out; have := HK2.out; omega
                    case rel => exact ⟨(wrap64 (x7_2 + 1)), (by first | rfl | (simp; done) | (simp [*]; done)), H', ⟨by have := HK1.out; have := HK2.out; omega⟩, ⟨by (with_reducible repeat (first | apply Kd.R_alloc | apply Kd.R_drewN | apply Kd.R_drew)); exact Kd.R_mono HO_6.out (fun _ hk => trivial)⟩, ⟨by repeat (first | (with_reducible first | exact HB.out | apply below_alloc | apply pw_below_drewN | apply below_drew1) | exact HB.out)⟩⟩
              · rw [if_neg c11] at H
                have c11b0 : decide (x7_2 < x5_1) = false := decide_eq_false c11
                clear c11
                have H' := Aside0.mk H
                clear H
                go_wp2
                go_roundg k2
                case measure => have := HK1.out; have := HK2.out; omega
                case rel => exact ⟨(wrap64 (x5_1 + 1)), (by first | rfl | (simp; done) | (simp [*]; done)), H', ⟨by have := HK1.out; have := HK2.out; omega⟩, ⟨by repeat (first | (with_reducible first | exact HB.out | apply below_alloc | apply pw_below_drewN | apply below_drew1) | exact HB.out)⟩⟩
      · rw [if_neg c3] at H
        have c3b0 : decide (x5_1 < a0) = false := decide_eq_false c3
        clear c3
        obtain rfl := Option.some.inj H
        go_wp2
        go_ret
        exact ⟨by first | rfl | (simp [errW_none, errW_some] <;> rfl) | (simp [*, errW_none, errW_some] <;> rfl), by repeat (first | (with_reducible first | exact HB.out | apply below_alloc | apply pw_below_drewN | apply below_drew1) | exact HB.out)⟩

end Go.Proofs.Ytdbeochifofdoaa.X
end

section
/-! What the document's small functions come to. -/
namespace Go.Proofs.Ytdbeochifofdoaa.X
open Go.RowKit Go.Proofs.YtdbeochifofdoaaW.PrintWords Go.Proofs.YtdbeochifofdoaaW.PrintLast
set_option linter.unusedVariables false
set_option linter.unusedSimpArgs false

theorem wrs (i : Nat) (h : i < 9223372036854775807) : wrap64 ((i : Int) + 1) = ((i + 1 : Nat) : Int) := by rw [wr1 (by omega) (by omega)]; omega

theorem has_l0 (l : List Int) (x : Int) (hl : l.length < 9223372036854775807) : ∀ (d k i : Nat), i ≤ l.length → l.length - i = d → d < k → verditerref06_has.l0 k l x i = some ((l.drop i).contains x)
  | 0, k + 1, i, h1, h2, _ => by
    unfold verditerref06_has.l0
    rw [if_neg (by omega), List.drop_eq_nil_of_le (by omega)]
    rfl
  | d + 1, k + 1, i, h1, h2, h3 => by
    unfold verditerref06_has.l0
    rw [if_pos (by omega), if_pos (by omega), rd_nat, dropD 0 l i (by omega), List.contains_cons, wrs i (by omega)]
    have ih := has_l0 l x hl d k (i + 1) (by omega) (by omega) (by omega)
    by_cases hx : l.getD i 0 = x
    · rw [if_pos hx, hx]; simp
    · have hbe : (x == l.getD i 0) = false := by rw [beq_eq_false_iff_ne]; exact fun e => hx e.symm
      rw [if_neg hx, ih, hbe, Bool.false_or]
theorem has_f (l : List Int) (x : Int) (k : Nat) (hl : l.length < 9223372036854775807) (hk : l.length < k) : verditerref06_has.f k l x = some (l.contains x) := by
  unfold verditerref06_has.f
  exact (has_l0 l x hl l.length k 0 (by omega) (by omega) hk).trans (by simp)

/-- The document's mark of a lot. -/
def markOf (x : Int) (y : S53) : Int := if y.f1.contains x then -1 else if y.f0.contains x then 1 else 0
def refMark (l : List S53) (x : Int) : List Int := l.map (markOf x)
theorem mark_l0 (l : List S53) (x : Int) (hl : l.length < 17592186044416) (hs : ∀ y, y ∈ l → y.f0.length ≤ 50 ∧ y.f1.length ≤ 50) :
    ∀ (d k i : Nat) (acc : List Int), i ≤ l.length → l.length - i = d → acc.length = i → d + 51 < k → verditerref06_mark.l0 k l x acc i = some (acc ++ refMark (l.drop i) x)
  | 0, k + 1, i, acc, h1, h2, _, _ => by
    unfold verditerref06_mark.l0
    rw [if_neg (by omega), List.drop_eq_nil_of_le (by omega)]
    simp [refMark]
  | d + 1, k + 1, i, acc, h1, h2, h3, h4 => by
    unfold verditerref06_mark.l0
    have hb := hs _ (mem_getD z53 l i (by omega))
    have hr : refMark (l.drop i) x = markOf x (l.getD i z53) :: refMark (l.drop (i + 1)) x := by rw [dropD z53 l i (by omega)]; rfl
    have ih := fun v => mark_l0 l x hl hs d k (i + 1) (acc ++ [v]) (by omega) (by omega) (by simp [h3]) (by omega)
    rw [if_pos (by omega), if_pos (by omega), show rd_T53 l (i : Int) = l.getD i z53 from rfl, has_f _ x k (by omega) (by omega), has_f _ x k (by omega) (by omega), wrs i (by omega), hr]
    simp only [Option.bind_some, if_pos (show acc.length < 17592186044416 by omega), ih]
    unfold markOf
    cases (l.getD i z53).f0.contains x <;> cases (l.getD i z53).f1.contains x <;> simp
theorem mark_f (l : List S53) (x : Int) (k : Nat) (hl : l.length < 17592186044416) (hs : ∀ y, y ∈ l → y.f0.length ≤ 50 ∧ y.f1.length ≤ 50) (hk : l.length + 51 < k) : verditerref06_mark.f k l x = some (refMark l x) := by
  unfold verditerref06_mark.f
  exact (mark_l0 l x hl hs l.length k 0 [] (by omega) (by omega) rfl hk).trans (by simp)

theorem times_l0 (l : List Int) (x : Int) (hl : l.length < 17592186044416) :
    ∀ (d k i : Nat) (acc : List Int), i ≤ l.length → l.length - i = d → acc.length = i → d < k → verditerref06_times.l0 k l x acc i = some (acc ++ (l.drop i).map fun y => wrap64 (x * y))
  | 0, k + 1, i, acc, h1, h2, _, _ => by
    unfold verditerref06_times.l0
    rw [if_neg (by omega), List.drop_eq_nil_of_le (by omega)]
    simp
  | d + 1, k + 1, i, acc, h1, h2, h3, h4 => by
    unfold verditerref06_times.l0
    have ih := times_l0 l x hl d k (i + 1) (acc ++ [wrap64 (x * l.getD i 0)]) (by omega) (by omega) (by simp [h3]) (by omega)
    rw [if_pos (by omega), if_pos (by omega), if_pos (show acc.length < 17592186044416 by omega), rd_nat, wrs i (by omega), ih, dropD 0 l i (by omega)]
    simp
theorem times_f (l : List Int) (x : Int) (k : Nat) (hl : l.length < 17592186044416) (hk : l.length < k) : verditerref06_times.f k l x = some (l.map fun y => wrap64 (x * y)) := by
  unfold verditerref06_times.f
  exact (times_l0 l x hl l.length k 0 [] (by omega) (by omega) rfl hk).trans (by simp)
theorem isBlank_l0 (l : List Int) (hl : l.length < 9223372036854775807) : ∀ (d k i : Nat), i ≤ l.length → l.length - i = d → d < k → verditerref06_isBlank.l0 k l i = some ((l.drop i).all (· == 0))
  | 0, k + 1, i, h1, h2, _ => by
    unfold verditerref06_isBlank.l0
    rw [if_neg (by omega), List.drop_eq_nil_of_le (by omega)]
    rfl
  | d + 1, k + 1, i, h1, h2, h3 => by
    unfold verditerref06_isBlank.l0
    rw [if_pos (by omega), if_pos (by omega), rd_nat, dropD 0 l i (by omega), List.all_cons, wrs i (by omega)]
    have ih := isBlank_l0 l hl d k (i + 1) (by omega) (by omega) (by omega)
    by_cases hx : l.getD i 0 = 0
    · rw [if_pos hx, hx, ih]; rfl
    · have hbe : (l.getD i 0 == 0) = false := by rw [beq_eq_false_iff_ne]; exact hx
      rw [if_neg hx, hbe]
      rfl
theorem isBlank_f (l : List Int) (k : Nat) (hl : l.length < 9223372036854775807) (hk : l.length < k) : verditerref06_isBlank.f k l = some (l.all (· == 0)) := by
  unfold verditerref06_isBlank.f
  exact (isBlank_l0 l hl l.length k 0 (by omega) (by omega) hk).trans (by simp)
theorem same_l0 (l m : List Int) (hl : l.length < 9223372036854775807) (he : l.length = m.length) : ∀ (d k i : Nat), i ≤ l.length → l.length - i = d → d < k → verditerref06_SameInts.l0 k l m i = some (l.drop i == m.drop i)
  | 0, k + 1, i, h1, h2, _ => by
    unfold verditerref06_SameInts.l0
    rw [if_neg (by omega), List.drop_eq_nil_of_le (by omega), List.drop_eq_nil_of_le (by omega)]
    rfl
  | d + 1, k + 1, i, h1, h2, h3 => by
    unfold verditerref06_SameInts.l0
    rw [if_pos (by omega), if_pos (by omega), if_pos (by omega), rd_nat, rd_nat, dropD 0 l i (by omega), dropD 0 m i (by omega), List.cons_beq_cons, wrs i (by omega)]
    have ih := same_l0 l m hl he d k (i + 1) (by omega) (by omega) (by omega)
    by_cases hx : l.getD i 0 = m.getD i 0
    · have hbe : (l.getD i 0 == m.getD i 0) = true := by rw [beq_iff_eq]; exact hx
      rw [if_pos hx, ih, hbe, Bool.true_and]
    · have hbe : (l.getD i 0 == m.getD i 0) = false := by rw [beq_eq_false_iff_ne]; exact hx
      rw [if_neg hx, hbe]
      rfl
theorem same_f (l m : List Int) (k : Nat) (hl : l.length < 9223372036854775807) (hk : l.length < k) : verditerref06_SameInts.f k l m = some (l == m) := by
  unfold verditerref06_SameInts.f
  by_cases he : l.length = m.length
  · rw [if_pos (by omega)]
    exact (same_l0 l m hl he l.length k 0 (by omega) (by omega) hk).trans (by simp)
  · rw [if_neg (by omega)]
    have : (l == m) = false := by rw [beq_eq_false_iff_ne]; exact fun e => he (by rw [e])
    rw [this]
end Go.Proofs.Ytdbeochifofdoaa.X
end

section
/-! The document's Validate is the program's. -/
namespace Go.Proofs.Ytdbeochifofdoaa.X
open Go.RowKit Go.Proofs.YtdbeochifofdoaaW.PrintWords Go.Proofs.YtdbeochifofdoaaW.PrintLast
set_option linter.unusedVariables false
set_option linter.unusedSimpArgs false

theorem val_l1 (lots : Int) (l : List S53) (i : Nat) (hi : i < l.length) (hm : l.length < 9223372036854775807) (hs : ∀ y, y ∈ l → y.f0.length ≤ 50 ∧ y.f1.length ≤ 50) (K : Nat) (r : Int)
    (hc : ∀ k, K ≤ k → verditerref06_Validate.l0 k lots l ((i + 1 : Nat) : Int) = some r) :
    ∀ (d j k : Nat), j ≤ (l.getD i z53).f0.length → (l.getD i z53).f0.length - j = d → K + d + 60 ≤ k →
      verditerref06_Validate.l1 k lots l i j = some (if ((l.getD i z53).f0.drop j).any (fun n => (l.getD i z53).f1.contains n) = true then 6 else if (l.getD i z53).f0.length = (l.getD i z53).f1.length then r else 5)
  | 0, j, k + 1, h1, h2, h3 => by
    unfold verditerref06_Validate.l1
    rw [if_pos (by omega), if_pos (by omega), show rd_T53 l (i : Int) = l.getD i z53 from rfl, if_neg (by omega), List.drop_eq_nil_of_le (by omega), wrs i (by omega), hc k (by omega)]
    by_cases he : (l.getD i z53).f0.length = (l.getD i z53).f1.length
    · rw [if_pos (by omega), List.any_nil, if_neg (by simp), if_pos he]
    · rw [if_neg (by omega), List.any_nil, if_neg (by simp), if_neg he]
  | d + 1, j, k + 1, h1, h2, h3 => by
    have hb := hs _ (mem_getD z53 l i hi)
    unfold verditerref06_Validate.l1
    have ih := val_l1 lots l i hi hm hs K r hc d (j + 1) k (by omega) (by omega) (by omega)
    rw [if_pos (by omega), if_pos (by omega), show rd_T53 l (i : Int) = l.getD i z53 from rfl, if_pos (by omega), if_pos (by omega), rd_nat, has_f _ _ k (by omega) (by omega), wrs j (by omega), ih, dropD 0 (l.getD i z53).f0 j (by omega), List.any_cons, Option.bind_some]
    cases hq : (l.getD i z53).f1.contains ((l.getD i z53).f0.getD j 0) with
    | true => rw [if_pos rfl, Bool.true_or, if_pos rfl]
    | false => rw [if_neg (by simp), Bool.false_or]
theorem val_l0 (lots : Int) (hl : 1 ≤ lots ∧ lots ≤ 13) (l : List S53) (hm : l.length < 9223372036854775807) (hs : ∀ y, y ∈ l → y.f0.length ≤ 50 ∧ y.f1.length ≤ 50) :
    ∀ (d i k : Nat), i ≤ l.length → l.length - i = d → 200 * (d + 1) ≤ k → verditerref06_Validate.l0 k lots l i = some (vErr lots (l.drop i))
  | 0, i, k + 1, h1, h2, h3 => by
    unfold verditerref06_Validate.l0
    rw [if_neg (by omega), List.drop_eq_nil_of_le (by omega)]
    rfl
  | d + 1, i, k + 2, h1, h2, h3 => by
    have hb := hs _ (mem_getD z53 l i (by omega))
    have hv : vErr lots (l.drop i) = if wErr lots (l.getD i z53) = 0 then vErr lots (l.drop (i + 1)) else wErr lots (l.getD i z53) := by rw [dropD z53 l i (by omega)]; rfl
    have hc : ∀ k, 200 * (d + 1) ≤ k → verditerref06_Validate.l0 k lots l ((i + 1 : Nat) : Int) = some (vErr lots (l.drop (i + 1))) := fun k hk => val_l0 lots hl l hm hs d (i + 1) k (by omega) (by omega) hk
    have h1' := val_l1 lots l i (by omega) hm hs (200 * (d + 1)) _ hc (l.getD i z53).f0.length 0 k (by omega) (by omega) (by omega)
    have hj : ∀ b, verditerref06_Validate.j1 (k + 1) lots l i b = if b = true then some 1 else verditerref06_Validate.l1 k lots l i 0 := fun b => by unfold verditerref06_Validate.j1; rfl
    unfold verditerref06_Validate.l0
    rw [if_pos (by omega), if_pos (by omega), show rd_T53 l (i : Int) = l.getD i z53 from rfl]
    simp only [verditerref06_isSet.f, if_pos hl, Option.bind_some, hj]
    rw [show ((0 : Nat) : Int) = 0 from rfl] at h1'
    rw [h1', hv]
    unfold wErr
    cases isSetB lots (l.getD i z53).f0 <;> cases isSetB lots (l.getD i z53).f1 <;> simp <;> (split <;> simp_all)
theorem refValidate_f (lots : Int) (l : List S53) (hm : l.length < 9223372036854775807) (hs : ∀ y, y ∈ l → y.f0.length ≤ 50 ∧ y.f1.length ≤ 50) (k : Nat) (hk : 800 ≤ k) : verditerref06_Validate.f k lots l = some (pErr lots l) := by
  unfold verditerref06_Validate.f pErr
  rw [rwithin_b, Option.bind_some]
  by_cases hl : 1 ≤ lots ∧ lots ≤ 13
  · have hb : (decide (1 ≤ lots) && decide (lots ≤ 13)) = true := by simp [hl]
    rw [if_pos hb, if_pos hl]
    by_cases h3 : 3 < l.length
    · rw [if_pos (by omega), if_pos h3]
    · rw [if_neg (by omega), if_neg h3]
      exact val_l0 lots hl l hm hs l.length 0 k (by omega) (by omega) (by omega)
  · have hb : ¬ (decide (1 ≤ lots) && decide (lots ≤ 13)) = true := by simpa using hl
    rw [if_neg hb, if_neg hl]
end Go.Proofs.Ytdbeochifofdoaa.X
end

section
-- Written by a program of this session (wip/hook.py, which runs the kit's print.py with contracts proved by hand). Not trusted: Lean checks it.
namespace Go.Proofs.Ytdbeochifofdoaa.X
open Go.RowKit Go.Proofs.YtdbeochifofdoaaW.PrintWords Go.Proofs.YtdbeochifofdoaaW.PrintLast Go.Proofs.YtdbeochifofdoaaW.PrintMore
attribute [local go_sem] max2_int min2_int max_two min_two max_three min_three max_four min_four   -- for this text's walks alone
set_option linter.unusedVariables false
set_option linter.unusedSimpArgs false

/-! ### verditerref06_Tells: function 32 -/
def verditerref06_Tells.f (k : Nat) (a0 : Int) (l1 : List (S53)) : Option (Bool × Int) := (verditerref06_Validate.f k a0 l1).bind fun t234 => (if t234 = 0 then ((verditerref06_tells.f k a0 l1).bind fun t235 => (some (t235, 0))) else (some (false, t234)))
theorem verditerref06_Tells.mono : ∀ a0 a1 k, LeO (verditerref06_Tells.f k a0 a1) (verditerref06_Tells.f (k + 1) a0 a1) := by
  intro a0 a1 k
  unfold verditerref06_Tells.f
  repeat' first
      | (with_reducible exact verditerref06_Validate.mono _ _ _)
      | (with_reducible exact verditerref06_tells.mono _ _ _)
      | (with_reducible exact LeO.refl _)
      | (with_reducible exact LeO.none _)
      | (with_reducible refine LeO.ite ?_ ?_)
      | (with_reducible refine LeO.bind ?_ (fun _ => ?_))
      | exact verditerref06_Validate.mono _ _ _
      | exact verditerref06_tells.mono _ _ _
      | exact LeO.none _
      | refine LeO.ite ?_ ?_
      | refine LeO.bind ?_ (fun _ => ?_)
set_option maxHeartbeats 8000000 in
set_option maxRecDepth 100000 in
theorem verditerref06_Tells.calls (k : Nat) (a0 : Int) (A1 : Option Addr) (c1 : Nat) (l1 : List (S53)) (r1 : Bool) (r2 : Int) (w : World) (hr1 : Kd.C k53 w A1 l1.length l1) (hc1 : l1.length ≤ c1) (h : verditerref06_Tells.f k a0 l1 = some (r1, r2)) :
    Calls Try.prog 32 #[.int .i64 a0, .slice A1 l1.length c1] w fun e w' => e = .returned (.tuple #[.bool r1, .int .i64 r2]) ∧ Below w.heap.size w w' := by
  have HR1 := Aside0.mk hr1
  have HC1 := Aside0.mk hc1
  clear hr1 hc1
  have HB := Aside0.mk (Below.refl w.heap.size w)
  have H : ((verditerref06_Validate.f k a0 l1).bind fun t234 => (if t234 = 0 then ((verditerref06_tells.f k a0 l1).bind fun t235 => (some (t235, 0))) else (some (false, t234)))) = some (r1, r2) := h
  clear h
  replace H := Option.bind_eq_some_iff.mp H
  obtain ⟨t234, A30, H⟩ := H
  replace H : (if t234 = 0 then ((verditerref06_tells.f k a0 l1).bind fun t235 => (some (t235, 0))) else (some (false, t234))) = some (r1, r2) := H
  have A3 := Aside0.mk A30
  clear A30
  by_cases c4 : t234 = 0
  · rw [if_pos c4] at H
    have c4b0 : (t234 == 0) = true := beq_iff_eq.mpr c4
    have c4b1 : (t234 != 0) = false := bne_eq_false_iff_eq.mpr c4
    clear c4
    replace H := Option.bind_eq_some_iff.mp H
    obtain ⟨t235, A50, H⟩ := H
    replace H : (some (t235, 0)) = some (r1, r2) := H
    have A5 := Aside0.mk A50
    clear A50
    simp only [Option.some.injEq, Prod.mk.injEq] at H
    obtain ⟨rfl, rfl⟩ := H
    go_enter Try.func32, Try.ntmps32
    go_wp2_with (first | ((with_reducible refine gate_callee (f := 59) rfl ?_); refine goesL_ (some 9) rfl rfl Try.func59 (by kernel_rfl) rfl #[.int .i64 a0, .slice A1 l1.length c1] rfl (by (try simp only [List.map_toArray, List.map_cons, List.map_nil]); first | done | rfl | (simp only [List.length_drop, List.length_take]; rfl)) ?_; (with_reducible refine (verditerref06_Validate.calls k a0 _ _ l1 t234 _ ?side1 ?side2 A3.out).mono ?_); (case side1 => repeat (first | exact HR1.out | (with_reducible refine Kd.C_alloc ?_ _) | (with_reducible refine Kd.C_drewN ?_ _) | (with_reducible refine Kd.C_drew ?_))); (case side2 => exact HC1.out); rintro e w' ⟨rfl, ⟨nd, rfl⟩⟩; refine ⟨_, rfl, ?_⟩) | ((with_reducible refine gate_callee (f := 62) rfl ?_); refine goesL_ (some 15) rfl rfl Try.func62 (by kernel_rfl) rfl #[.int .i64 a0, .slice A1 l1.length c1] rfl (by (try simp only [List.map_toArray, List.map_cons, List.map_nil]); first | done | rfl | (simp only [List.length_drop, List.length_take]; rfl)) ?_; (with_reducible refine (verditerref06_tells.calls k a0 _ _ l1 t235 _ ?side1 ?side2 A5.out).mono ?_); (case side1 => repeat (first | exact HR1.out | (with_reducible refine Kd.C_alloc ?_ _) | (with_reducible refine Kd.C_drewN ?_ _) | (with_reducible refine Kd.C_drew ?_))); (case side2 => exact HC1.out); rintro e w6 ⟨rfl, hb⟩; refine ⟨_, rfl, ?_⟩; have n0_ := Aside0.mk (below_step (by repeat (first | (with_reducible first | exact HB.out | apply below_alloc | apply pw_below_drewN | apply below_drew1) | exact HB.out)) hb); clear HB; have HB := n0_; clear n0_; (try clear hb); (try clear hb2); (try clear hk); (try clear hi)))
    go_ret2
    exact ⟨by first | rfl | (simp [errW_none, errW_some] <;> rfl) | (simp [*, errW_none, errW_some] <;> rfl), by repeat (first | (with_reducible first | exact HB.out | apply below_alloc | apply pw_below_drewN | apply below_drew1) | exact HB.out)⟩
  · rw [if_neg c4] at H
    have c4b0 : (t234 == 0) = false := beq_eq_false_iff_ne.mpr c4
    have c4b1 : (t234 != 0) = true := bne_iff_ne.mpr c4
    simp only [Option.some.injEq, Prod.mk.injEq] at H
    obtain ⟨rfl, rfl⟩ := H
    go_enter Try.func32, Try.ntmps32
    go_wp2_with (first | ((with_reducible refine gate_callee (f := 59) rfl ?_); refine goesL_ (some 9) rfl rfl Try.func59 (by kernel_rfl) rfl #[.int .i64 a0, .slice A1 l1.length c1] rfl (by (try simp only [List.map_toArray, List.map_cons, List.map_nil]); first | done | rfl | (simp only [List.length_drop, List.length_take]; rfl)) ?_; (with_reducible refine (verditerref06_Validate.calls k a0 _ _ l1 t234 _ ?side1 ?side2 A3.out).mono ?_); (case side1 => repeat (first | exact HR1.out | (with_reducible refine Kd.C_alloc ?_ _) | (with_reducible refine Kd.C_drewN ?_ _) | (with_reducible refine Kd.C_drew ?_))); (case side2 => exact HC1.out); rintro e w' ⟨rfl, ⟨nd, rfl⟩⟩; refine ⟨_, rfl, ?_⟩))
    go_ret2
    exact ⟨by first | rfl | (simp [errW_none, errW_some] <;> rfl) | (simp [*, errW_none, errW_some] <;> rfl), by repeat (first | (with_reducible first | exact HB.out | apply below_alloc | apply pw_below_drewN | apply below_drew1) | exact HB.out)⟩

end Go.Proofs.Ytdbeochifofdoaa.X
end

section
/-! Long; the document's tells. -/
namespace Go.Proofs.Ytdbeochifofdoaa.X
open Go.RowKit Go.Proofs.YtdbeochifofdoaaW.PrintWords Go.Proofs.YtdbeochifofdoaaW.PrintLast
set_option linter.unusedVariables false
set_option linter.unusedSimpArgs false

/-- Has a weighing a long list? -/
def longW (y : S53) : Bool := decide (50 < y.f0.length) || decide (50 < y.f1.length)
def longB (l : List S53) : Bool := decide (50 < l.length) || l.any longW
theorem long_l0 (l : List S53) (hm : l.length < 9223372036854775807) : ∀ (d k i : Nat), i ≤ l.length → l.length - i = d → d < k → verditerlaw06_Long.l0 k l i = some ((l.drop i).any longW)
  | 0, k + 1, i, h1, h2, _ => by
    unfold verditerlaw06_Long.l0
    rw [if_neg (by omega), List.drop_eq_nil_of_le (by omega)]
    rfl
  | d + 1, k + 1, i, h1, h2, h3 => by
    unfold verditerlaw06_Long.l0
    rw [if_pos (by omega), if_pos (by omega), show rd_T53 l (i : Int) = l.getD i z53 from rfl, dropD z53 l i (by omega), List.any_cons, wrs i (by omega)]
    have ih := long_l0 l hm d k (i + 1) (by omega) (by omega) (by omega)
    generalize l.getD i z53 = y
    unfold longW
    by_cases ha : 50 < y.f0.length
    · rw [if_pos (by omega), decide_eq_true ha]; rfl
    · rw [if_neg (by omega), decide_eq_false ha]
      by_cases hb : 50 < y.f1.length
      · rw [if_pos (by omega), decide_eq_true hb]; rfl
      · rw [if_neg (by omega), decide_eq_false hb, ih]; rfl
theorem long_f (l : List S53) (hm : l.length < 9223372036854775807) (k : Nat) (hk : 51 < k) : verditerlaw06_Long.f k l = some (longB l) := by
  unfold verditerlaw06_Long.f longB
  by_cases h : 50 < l.length
  · rw [if_pos (by omega), decide_eq_true h]; rfl
  · rw [if_neg (by omega), decide_eq_false h]
    exact (long_l0 l hm l.length k 0 (by omega) (by omega) (by omega)).trans (by simp)
theorem long_not {l : List S53} (h : longB l = false) : l.length ≤ 50 ∧ ∀ y, y ∈ l → y.f0.length ≤ 50 ∧ y.f1.length ≤ 50 := by
  unfold longB at h
  rw [Bool.or_eq_false_iff] at h
  refine ⟨by simpa using h.1, fun y hy => ?_⟩
  have := (List.any_eq_false.mp h.2) y hy
  unfold longW at this
  simpa using this

/-- Are the marks of the lots i and j the same, or opposite? -/
def pairB (l : List S53) (i j : Nat) : Bool := (refMark l i == refMark l j) || (refMark l i == (refMark l j).map fun y => wrap64 (-1 * y))
theorem tel_l1 (lots : Int) (l : List S53) (hm : l.length ≤ 3) (hs : ∀ y, y ∈ l → y.f0.length ≤ 50 ∧ y.f1.length ≤ 50) (i : Nat) (hi : i < 9223372036854775807) (K : Nat) (r : Bool)
    (hc : ∀ k, K ≤ k → verditerref06_tells.l0 k lots l ((i + 1 : Nat) : Int) = some r) :
    ∀ (d j k : Nat), i - j = d → j ≤ i → K + d + 60 ≤ k → verditerref06_tells.l1 k lots l i (refMark l i) j = some (if (List.range' j d).any (pairB l i) = true then false else r)
  | 0, j, k + 1, h1, h2, h3 => by
    unfold verditerref06_tells.l1
    rw [if_neg (by omega), wrs i hi, hc k (by omega)]
    rfl
  | d + 1, j, k + 1, h1, h2, h3 => by
    have ih := tel_l1 lots l hm hs i hi K r hc d (j + 1) k (by omega) (by omega) (by omega)
    have hlen : ∀ x, (refMark l x).length ≤ 3 := fun x => by unfold refMark; rw [List.length_map]; exact hm
    unfold verditerref06_tells.l1
    rw [if_pos (by omega), mark_f l _ k (by omega) hs (by omega), Option.bind_some, same_f _ _ k (by have := hlen i; omega) (by have := hlen i; omega), Option.bind_some, Option.bind_some,
      times_f _ _ k (by have := hlen j; omega) (by have := hlen j; omega), Option.bind_some, same_f _ _ k (by have := hlen i; omega) (by have := hlen i; omega), Option.bind_some, wrs j (by omega), ih, List.range'_succ, List.any_cons]
    unfold pairB
    cases (refMark l i == refMark l j) <;> cases (refMark l i == (refMark l j).map fun y => wrap64 (-1 * y)) <;> simp
/-- Do the lots from i on, d of them, tell? -/
def telB (l : List S53) : Nat → Nat → Bool
  | 0, _ => true
  | d + 1, i => if (refMark l i).all (· == 0) = true then false else if (List.range' 0 i).any (pairB l i) = true then false else telB l d (i + 1)
theorem telB_succ (l : List S53) (d i : Nat) : telB l (d + 1) i = if (refMark l i).all (· == 0) = true then false else if (List.range' 0 i).any (pairB l i) = true then false else telB l d (i + 1) := rfl
theorem tel_l0 (n : Nat) (hn : n ≤ 13) (l : List S53) (hm : l.length ≤ 3) (hs : ∀ y, y ∈ l → y.f0.length ≤ 50 ∧ y.f1.length ≤ 50) :
    ∀ (d i k : Nat), i + d = n → 100 * (d + 1) ≤ k → verditerref06_tells.l0 k n l i = some (telB l d i)
  | 0, i, k + 1, h1, h2 => by
    unfold verditerref06_tells.l0
    rw [if_neg (by omega)]
    rfl
  | d + 1, i, k + 1, h1, h2 => by
    have hlen : (refMark l i).length ≤ 3 := by unfold refMark; rw [List.length_map]; exact hm
    have h := tel_l1 n l hm hs i (by omega) (100 * (d + 1)) (telB l d (i + 1)) (fun k hk => tel_l0 n hn l hm hs d (i + 1) k (by omega) hk) i 0 k (by omega) (by omega) (by omega)
    rw [show ((0 : Nat) : Int) = 0 from rfl] at h
    unfold verditerref06_tells.l0
    rw [if_pos (by omega), mark_f l _ k (by omega) hs (by omega), Option.bind_some, isBlank_f _ k (by omega) (by omega), Option.bind_some, h]
    rw [telB_succ]
    split <;> rfl
theorem refTells_f (lots : Int) (l : List S53) (hm : l.length < 9223372036854775807) (hs : ∀ y, y ∈ l → y.f0.length ≤ 50 ∧ y.f1.length ≤ 50) (k : Nat) (hk : 2000 ≤ k) :
    verditerref06_Tells.f k lots l = some (if pErr lots l = 0 then (telB l lots.toNat 0, 0) else (false, pErr lots l)) := by
  unfold verditerref06_Tells.f
  rw [refValidate_f lots l hm hs k (by omega), Option.bind_some]
  by_cases h : pErr lots l = 0
  · rw [if_pos h, if_pos h]
    have hp : (1 ≤ lots ∧ lots ≤ 13) ∧ l.length ≤ 3 := by
      unfold pErr at h
      split at h
      · rename_i h1
        split at h
        · cases h
        · exact ⟨h1, by omega⟩
      · cases h
    obtain ⟨n, rfl⟩ := Int.eq_ofNat_of_zero_le (show 0 ≤ lots by omega)
    unfold verditerref06_tells.f
    have := tel_l0 n (by omega) l hp.2 hs n 0 k (by omega) (by omega)
    rw [show ((0 : Nat) : Int) = 0 from rfl] at this
    rw [this]
    rfl
  · rw [if_neg h, if_neg h]
end Go.Proofs.Ytdbeochifofdoaa.X
end

section
/-! The program's marks are the document's. -/
namespace Go.Proofs.Ytdbeochifofdoaa.X
open Go.RowKit Go.Proofs.YtdbeochifofdoaaW.PrintWords Go.Proofs.YtdbeochifofdoaaW.PrintLast
set_option linter.unusedVariables false
set_option linter.unusedSimpArgs false

theorem fsetl_at (k : Nat) (v : Int) : ∀ (l : List Int) (f : Nat → Nat → Int) (a b : Nat), (∀ x, x ∈ l → 0 ≤ x) → fsetl k v f l a b = if b = k ∧ l.contains (a : Int) = true then v else f a b
  | [], f, a, b, _ => by simp [fsetl]
  | x :: xs, f, a, b, h => by
    have hx : 0 ≤ x := h x List.mem_cons_self
    rw [fsetl, fsetl_at k v xs _ a b (fun y hy => h y (List.mem_cons_of_mem _ hy)), List.contains_cons]
    by_cases hb : b = k
    · subst hb
      cases hc : xs.contains (a : Int) with
      | true => simp
      | false =>
        unfold upd
        by_cases he : a = x.toNat
        · have h1 : ((a : Int) == x) = true := by rw [beq_iff_eq]; omega
          rw [h1]; simp [he]
        · have h1 : ((a : Int) == x) = false := by rw [beq_eq_false_iff_ne]; omega
          simp [he, h1]
    · simp [hb, upd]
/-- What a weighing writes into the row a. -/
def cellOf (y : S53) (a v : Int) : Int := if y.f1.contains a = true then -1 else if y.f0.contains a = true then 1 else v
theorem marksF_at : ∀ (l : List S53) (f : Nat → Nat → Int) (k a b : Nat), (∀ y, y ∈ l → (∀ x, x ∈ y.f0 → 0 ≤ x) ∧ ∀ x, x ∈ y.f1 → 0 ≤ x) →
    marksF f k l a b = if k ≤ b ∧ b < k + l.length then cellOf (l.getD (b - k) z53) a (f a b) else f a b
  | [], f, k, a, b, _ => by
    rw [if_neg (by rw [List.length_nil]; omega)]
    rfl
  | y :: ys, f, k, a, b, h => by
    have hy := h y List.mem_cons_self
    rw [marksF, marksF_at ys _ (k + 1) a b (fun z hz => h z (List.mem_cons_of_mem _ hz)), fsetl_at k (-1) y.f1 _ a b hy.2, fsetl_at k 1 y.f0 f a b hy.1]
    by_cases hb : b = k
    · subst hb
      rw [if_neg (by omega), if_pos (show b ≤ b ∧ b < b + (y :: ys).length by rw [List.length_cons]; omega), Nat.sub_self, List.getD_cons_zero]
      unfold cellOf
      simp
    · by_cases hr : k + 1 ≤ b ∧ b < k + 1 + ys.length
      · rw [if_pos hr, if_pos (show k ≤ b ∧ b < k + (y :: ys).length by rw [List.length_cons]; omega), show b - k = (b - (k + 1)) + 1 by omega]
        simp [hb, List.getD_cons_succ]
      · rw [if_neg hr, if_neg (show ¬ (k ≤ b ∧ b < k + (y :: ys).length) by rw [List.length_cons]; omega)]
        simp [hb]
end Go.Proofs.Ytdbeochifofdoaa.X
end

section
/-! bad finds nothing just if the plan tells. -/
namespace Go.Proofs.Ytdbeochifofdoaa.X
open Go.RowKit Go.Proofs.YtdbeochifofdoaaW.PrintWords Go.Proofs.YtdbeochifofdoaaW.PrintLast
set_option linter.unusedVariables false
set_option linter.unusedSimpArgs false

/-- A lot's mark, as three numbers. -/
def mk3 (l : List S53) (n : Nat) : S70 := ⟨((refMark l n).getD 0 0), ((refMark l n).getD 1 0), ((refMark l n).getD 2 0)⟩
theorem cellOf_mark (y : S53) (n : Nat) : cellOf y n 0 = markOf n y := rfl
theorem marksF_mk (l : List S53) (hp : ∀ y, y ∈ l → (∀ x, x ∈ y.f0 → 0 ≤ x) ∧ ∀ x, x ∈ y.f1 → 0 ≤ x) (n k : Nat) : marksF (fun _ _ => 0) 0 l n k = (refMark l n).getD k 0 := by
  rw [marksF_at l _ 0 n k hp]
  by_cases h : k < l.length
  · rw [if_pos (by omega), cellOf_mark]
    simp [refMark, List.getD_eq_getElem?_getD, List.getElem?_map, List.getElem?_eq_getElem h]
  · rw [if_neg (by omega)]
    simp [refMark, List.getD_eq_getElem?_getD, List.getElem?_eq_none (by simpa using h : l.length ≤ k)]
theorem marksL_mk (lots : Int) (l : List S53) (hp : ∀ y, y ∈ l → (∀ x, x ∈ y.f0 → 0 ≤ x) ∧ ∀ x, x ∈ y.f1 → 0 ≤ x) : marksL lots l = (List.range lots.toNat).map (mk3 l) := by
  unfold marksL rowsOf mk3
  simp only [marksF_mk l hp]
theorem markOf_small (n : Int) (y : S53) : -1 ≤ markOf n y ∧ markOf n y ≤ 1 := by
  unfold markOf
  split
  · decide
  · split <;> decide
theorem isZ_mk (l : List S53) (n : Nat) (hl : l.length ≤ 3) : isZ (mk3 l n) = (refMark l n).all (· == 0) := by
  match l, hl with
  | [], _ => rfl
  | [a], _ => simp [isZ, mk3, refMark]
  | [a, b], _ => simp [isZ, mk3, refMark]
  | [a, b, c], _ => simp [isZ, mk3, refMark, Bool.and_assoc]
theorem wr_small {v : Int} (h : -1 ≤ v ∧ v ≤ 1) : wrap64 (v * 1) = v ∧ wrap64 (v * -1) = -v ∧ wrap64 (-1 * v) = -v := by
  refine ⟨?_, ?_, ?_⟩
  · rw [Int.mul_one]; exact wr_of (by omega) (by omega)
  · rw [show v * -1 = -v by omega]; exact wr_of (by omega) (by omega)
  · rw [show -1 * v = -v by omega]; exact wr_of (by omega) (by omega)
end Go.Proofs.Ytdbeochifofdoaa.X
end

section
/-! bad finds nothing just if the document's tells. -/
namespace Go.Proofs.Ytdbeochifofdoaa.X
open Go.RowKit Go.Proofs.YtdbeochifofdoaaW.PrintWords Go.Proofs.YtdbeochifofdoaaW.PrintLast
set_option linter.unusedVariables false
set_option linter.unusedSimpArgs false

theorem sm_pos {x y : Int} (hx : -1 ≤ x ∧ x ≤ 1) : (y == wrap64 (x * 1)) = (x == y) := by
  rw [(wr_small hx).1]; exact BEq.comm
theorem sm_neg {x y : Int} (hx : -1 ≤ x ∧ x ≤ 1) (hy : -1 ≤ y ∧ y ≤ 1) : (y == wrap64 (x * -1)) = (x == wrap64 (-1 * y)) := by
  rw [(wr_small hx).2.1, (wr_small hy).2.2]
  rw [Bool.eq_iff_iff, beq_iff_eq, beq_iff_eq]
  omega
theorem eqTim_pos (l : List S53) (hl : l.length ≤ 3) (i j : Nat) : eqTim (mk3 l j) (mk3 l i) 1 = (refMark l i == refMark l j) := by
  have h0 : ((0 : Int) == wrap64 (0 * 1)) = true := by rw [(wr_small (v := 0) (by omega)).1]; rfl
  have hn : (([] : List Int) == []) = true := rfl
  match l, hl with
  | [], _ => simp only [eqTim, mk3, refMark, List.map_nil, List.getD_nil, h0, hn, Bool.and_true]
  | [a], _ => simp only [eqTim, mk3, refMark, List.map_cons, List.map_nil, List.getD_cons_zero, List.getD_cons_succ, List.getD_nil, h0, sm_pos (markOf_small _ _), List.cons_beq_cons, hn, Bool.and_true]
  | [a, b], _ => simp only [eqTim, mk3, refMark, List.map_cons, List.map_nil, List.getD_cons_zero, List.getD_cons_succ, List.getD_nil, h0, sm_pos (markOf_small _ _), List.cons_beq_cons, hn, Bool.and_true]
  | [a, b, c], _ => simp only [eqTim, mk3, refMark, List.map_cons, List.map_nil, List.getD_cons_zero, List.getD_cons_succ, List.getD_nil, h0, sm_pos (markOf_small _ _), List.cons_beq_cons, hn, Bool.and_true]
theorem eqTim_neg (l : List S53) (hl : l.length ≤ 3) (i j : Nat) : eqTim (mk3 l j) (mk3 l i) (-1) = (refMark l i == (refMark l j).map fun y => wrap64 (-1 * y)) := by
  have h0 : ((0 : Int) == wrap64 (0 * -1)) = true := by rw [(wr_small (v := 0) (by omega)).2.1]; rfl
  have hn : (([] : List Int) == []) = true := rfl
  match l, hl with
  | [], _ => simp only [eqTim, mk3, refMark, List.map_nil, List.getD_nil, h0, hn, Bool.and_true]
  | [a], _ => simp only [eqTim, mk3, refMark, List.map_cons, List.map_nil, List.getD_cons_zero, List.getD_cons_succ, List.getD_nil, h0, sm_neg (markOf_small _ _) (markOf_small _ _), List.cons_beq_cons, hn, Bool.and_true]
  | [a, b], _ => simp only [eqTim, mk3, refMark, List.map_cons, List.map_nil, List.getD_cons_zero, List.getD_cons_succ, List.getD_nil, h0, sm_neg (markOf_small _ _) (markOf_small _ _), List.cons_beq_cons, hn, Bool.and_true]
  | [a, b, c], _ => simp only [eqTim, mk3, refMark, List.map_cons, List.map_nil, List.getD_cons_zero, List.getD_cons_succ, List.getD_nil, h0, sm_neg (markOf_small _ _) (markOf_small _ _), List.cons_beq_cons, hn, Bool.and_true]
theorem pair_eq (l : List S53) (hl : l.length ≤ 3) (i j : Nat) : (eqTim (mk3 l j) (mk3 l i) 1 || eqTim (mk3 l j) (mk3 l i) (-1)) = pairB l i j := by
  rw [eqTim_pos l hl, eqTim_neg l hl]; rfl
theorem badJ_none (m : S70) (i : Int) : ∀ (os : List S70) (j : Int), (badJ m i os j).isNone = !(os.any fun o => eqTim o m 1 || eqTim o m (-1))
  | [], _ => rfl
  | o :: os, j => by
    rw [badJ, List.any_cons]
    cases h1 : eqTim o m 1 with
    | true => rfl
    | false =>
      cases h2 : eqTim o m (-1) with
      | true => rfl
      | false =>
        rw [if_neg (by simp), if_neg (by simp), badJ_none m i os]
        rfl
theorem badI_none (l : List S53) (hl : l.length ≤ 3) (n : Nat) : ∀ (d i : Nat), i + d = n →
    (badI ((List.range n).map (mk3 l)) (((List.range n).map (mk3 l)).drop i) i).isNone = telB l d i
  | 0, i, h => by
    rw [List.drop_eq_nil_of_le (by simp; omega)]
    rfl
  | d + 1, i, h => by
    have ih := badI_none l hl n d (i + 1) (by omega)
    have ht : (((List.range n).map (mk3 l)).take i) = (List.range i).map (mk3 l) := by
      rw [← List.map_take, List.take_range, Nat.min_eq_left (by omega)]
    have hd : ((List.range n).map (mk3 l)).drop i = mk3 l i :: ((List.range n).map (mk3 l)).drop (i + 1) := by
      rw [List.drop_eq_getElem_cons (by simp; omega)]
      simp
    have hj : (badJ (mk3 l i) i ((List.range i).map (mk3 l)) 0).isNone = !((List.range' 0 i).any (pairB l i)) := by
      rw [badJ_none, List.any_map, List.range_eq_range']
      congr 2
      funext j
      exact pair_eq l hl i j
    rw [hd, badI, telB_succ, ht, isZ_mk l i hl]
    cases (refMark l i).all (· == 0) with
    | true => rfl
    | false =>
      rw [if_neg (by simp), if_neg (by simp)]
      generalize hq : badJ (mk3 l i) i ((List.range i).map (mk3 l)) 0 = q at *
      cases q with
      | none =>
        have : (List.range' 0 i).any (pairB l i) = false := by simpa using hj
        rw [this, if_neg (by simp)]
        exact ih
      | some v =>
        have : (List.range' 0 i).any (pairB l i) = true := by simpa using hj
        rw [this, if_pos rfl]
        rfl
theorem badOut_some (r : Option (Int × Int × Int × Int)) : (badOut r).2.2.2.2 = !r.isNone := by
  match r with
  | none => rfl
  | some (a, b, c, d) => rfl
theorem okP_pos {lots : Int} {l : List S53} (h : OkP lots l) : ∀ y, y ∈ l → (∀ x, x ∈ y.f0 → 0 ≤ x) ∧ ∀ x, x ∈ y.f1 → 0 ≤ x :=
  fun y hy => ⟨fun x hx => ((h.each y hy).left x hx).1, fun x hx => ((h.each y hy).right x hx).1⟩
theorem badI_tel {lots : Int} {l : List S53} (hp : pErr lots l = 0) : (badI (marksL lots l) (marksL lots l) 0).isNone = telB l lots.toNat 0 := by
  have ok := pErr_ok hp
  rw [marksL_mk lots l (okP_pos ok)]
  have := badI_none l ok.few lots.toNat lots.toNat 0 (by omega)
  simpa using this
theorem bad_tel {lots : Int} {l : List S53} (hp : pErr lots l = 0) : ∃ a b c d, weigh_bad.f lots l = some (a, b, c, d, !telB l lots.toNat 0) := by
  unfold weigh_bad.f
  rw [if_pos hp]
  have hb : (badOut (badI (marksL lots l) (marksL lots l) 0)).2.2.2.2 = !telB l lots.toNat 0 := by rw [badOut_some, badI_tel hp]
  generalize badOut (badI (marksL lots l) (marksL lots l) 0) = r at *
  obtain ⟨a, b, c, d, e⟩ := r
  obtain rfl : e = _ := hb
  exact ⟨a, b, c, d, rfl⟩
theorem Tells_f (lots : Int) (l : List S53) : weigh_Tells.f lots l = some (if pErr lots l = 0 then (telB l lots.toNat 0, 0) else (false, pErr lots l)) := by
  unfold weigh_Tells.f weigh_Validate.f
  rw [Option.bind_some]
  by_cases hp : pErr lots l = 0
  · rw [if_pos hp, if_pos hp]
    obtain ⟨a, b, c, d, h⟩ := bad_tel hp
    rw [h, Option.bind_some, Bool.not_not]
  · rw [if_neg hp, if_neg hp]
end Go.Proofs.Ytdbeochifofdoaa.X
end

section
-- Written by a program of this session (wip/hook.py, which runs the kit's print.py with contracts proved by hand). Not trusted: Lean checks it.
namespace Go.Proofs.Ytdbeochifofdoaa.X
open Go.RowKit Go.Proofs.YtdbeochifofdoaaW.PrintWords Go.Proofs.YtdbeochifofdoaaW.PrintLast Go.Proofs.YtdbeochifofdoaaW.PrintMore
attribute [local go_sem] max2_int min2_int max_two min_two max_three min_three max_four min_four   -- for this text's walks alone
set_option linter.unusedVariables false
set_option linter.unusedSimpArgs false

theorem eqA35 (d : Nat) (w : World) (x0 y0 : Int) (x1 y1 : Int) :
    (Op.equalIn (d + 2) 35 (.agg #[.int .i64 x0, .int .i64 x1]) (.agg #[.int .i64 y0, .int .i64 y1])).run Try.prog w = .ok (x0 == y0 && (x1 == y1)) w := by
  refine eqA_of Try.underlying35 (by kernel_rfl) ?_
  refine eqf_cons (by rfl) (by go_simp; rfl) (by go_simp; rfl) (by go_simp) ?_
  exact eqf_last (by rfl) (by go_simp; rfl) (by go_simp; rfl) (by go_simp)
end Go.Proofs.Ytdbeochifofdoaa.X
end

section
-- Written by a program of this session (wip/hook.py, which runs the kit's print.py with contracts proved by hand). Not trusted: Lean checks it.
namespace Go.Proofs.Ytdbeochifofdoaa.X
open Go.RowKit Go.Proofs.YtdbeochifofdoaaW.PrintWords Go.Proofs.YtdbeochifofdoaaW.PrintLast Go.Proofs.YtdbeochifofdoaaW.PrintMore
attribute [local go_sem] max2_int min2_int max_two min_two max_three min_three max_four min_four   -- for this text's walks alone
set_option linter.unusedVariables false
set_option linter.unusedSimpArgs false

/-! ### verditerref06_cased: function 78 -/
mutual
def verditerref06_cased.l0 : Nat → Int → List (S35) → Int → Option (Int)
  | 0, _, _, _ => none
  | k + 1, x0, x2, x8 => if x8 < (x2.length : Int) then (if 0 ≤ x8 then ((verditerref06_within.f ((rd_T35 x2 x8).f0) 0 (wrap64 (x0 - 1))).bind fun t257 => (if t257 = true then (verditerref06_cased.l0 k x0 x2 (wrap64 (x8 + 1))) else (some 4))) else (none)) else (verditerref06_cased.l1 k x2 0)
def verditerref06_cased.l1 : Nat → List (S35) → Int → Option (Int)
  | 0, _, _ => none
  | k + 1, x2, x9 => if x9 < (x2.length : Int) then (if 0 ≤ x9 then (if ((rd_T35 x2 x9).f1) = 1 then (verditerref06_cased.l1 k x2 (wrap64 (x9 + 1))) else (if ((rd_T35 x2 x9).f1) = (-1) then (verditerref06_cased.l1 k x2 (wrap64 (x9 + 1))) else (some 1))) else (none)) else (some 0)
end
def verditerref06_cased.f (k : Nat) (a0 : Int) (l1 : List (S53)) (l2 : List (S35)) : Option (Int) := (verditerref06_Validate.f k a0 l1).bind fun t255 => (if t255 = 0 then (verditerref06_cased.l0 k a0 l2 0) else (some t255))
theorem verditerref06_cased.mono_l : ∀ k, (∀ y0 y1 y2, LeO (verditerref06_cased.l0 k y0 y1 y2) (verditerref06_cased.l0 (k + 1) y0 y1 y2)) ∧ (∀ y0 y1, LeO (verditerref06_cased.l1 k y0 y1) (verditerref06_cased.l1 (k + 1) y0 y1))
  | 0 => ⟨fun _ _ _ r h => by simp [verditerref06_cased.l0] at h, fun _ _ r h => by simp [verditerref06_cased.l1] at h⟩
  | k + 1 => by
    obtain ⟨ih0, ih1⟩ := verditerref06_cased.mono_l k
    refine ⟨?_, ?_⟩
    · intro y0 y1 y2
      unfold verditerref06_cased.l0
      repeat' first
      | (with_reducible exact ih0 _ _ _)
      | (with_reducible exact ih1 _ _)
      | (with_reducible exact verditerref06_Validate.mono _ _ _)
      | (with_reducible exact LeO.refl _)
      | (with_reducible exact LeO.none _)
      | (with_reducible refine LeO.ite ?_ ?_)
      | (with_reducible refine LeO.bind ?_ (fun _ => ?_))
      | exact ih0 _ _ _
      | exact ih1 _ _
      | exact verditerref06_Validate.mono _ _ _
      | exact LeO.none _
      | refine LeO.ite ?_ ?_
      | refine LeO.bind ?_ (fun _ => ?_)
    · intro y0 y1
      unfold verditerref06_cased.l1
      repeat' first
      | (with_reducible exact ih0 _ _ _)
      | (with_reducible exact ih1 _ _)
      | (with_reducible exact verditerref06_Validate.mono _ _ _)
      | (with_reducible exact LeO.refl _)
      | (with_reducible exact LeO.none _)
      | (with_reducible refine LeO.ite ?_ ?_)
      | (with_reducible refine LeO.bind ?_ (fun _ => ?_))
      | exact ih0 _ _ _
      | exact ih1 _ _
      | exact verditerref06_Validate.mono _ _ _
      | exact LeO.none _
      | refine LeO.ite ?_ ?_
      | refine LeO.bind ?_ (fun _ => ?_)
theorem verditerref06_cased.mono : ∀ a0 a1 a2 k, LeO (verditerref06_cased.f k a0 a1 a2) (verditerref06_cased.f (k + 1) a0 a1 a2) := by
  intro a0 a1 a2 k
  obtain ⟨ih0, ih1⟩ := verditerref06_cased.mono_l k
  unfold verditerref06_cased.f
  repeat' first
      | (with_reducible exact ih0 _ _ _)
      | (with_reducible exact ih1 _ _)
      | (with_reducible exact verditerref06_Validate.mono _ _ _)
      | (with_reducible exact LeO.refl _)
      | (with_reducible exact LeO.none _)
      | (with_reducible refine LeO.ite ?_ ?_)
      | (with_reducible refine LeO.bind ?_ (fun _ => ?_))
      | exact ih0 _ _ _
      | exact ih1 _ _
      | exact verditerref06_Validate.mono _ _ _
      | exact LeO.none _
      | refine LeO.ite ?_ ?_
      | refine LeO.bind ?_ (fun _ => ?_)
set_option maxHeartbeats 8000000 in
set_option maxRecDepth 100000 in
theorem verditerref06_cased.calls (k : Nat) (a0 : Int) (A1 : Option Addr) (c1 : Nat) (l1 : List (S53)) (A2 : Option Addr) (c2 : Nat) (l2 : List (S35)) (r : Int) (w : World) (hr1 : Kd.C k53 w A1 l1.length l1) (hc1 : l1.length ≤ c1) (hr2 : Kd.C k35 w A2 l2.length l2) (hc2 : l2.length ≤ c2) (h : verditerref06_cased.f k a0 l1 l2 = some r) :
    Calls Try.prog 78 #[.int .i64 a0, .slice A1 l1.length c1, .slice A2 l2.length c2] w fun e w' => e = .returned (.int .i64 r) ∧ Drawn0 w w' := by
  have HR1 := Aside0.mk hr1
  have HC1 := Aside0.mk hc1
  clear hr1 hc1
  have HR2 := Aside0.mk hr2
  have HC2 := Aside0.mk hc2
  clear hr2 hc2
  have H : ((verditerref06_Validate.f k a0 l1).bind fun t255 => (if t255 = 0 then (verditerref06_cased.l0 k a0 l2 0) else (some t255))) = some r := h
  clear h
  replace H := Option.bind_eq_some_iff.mp H
  obtain ⟨t255, A40, H⟩ := H
  replace H : (if t255 = 0 then (verditerref06_cased.l0 k a0 l2 0) else (some t255)) = some r := H
  have A4 := Aside0.mk A40
  clear A40
  by_cases c5 : t255 = 0
  · rw [if_pos c5] at H
    have c5b0 : (t255 == 0) = true := beq_iff_eq.mpr c5
    have c5b1 : (t255 != 0) = false := bne_eq_false_iff_eq.mpr c5
    clear c5
    have H' := Aside0.mk H
    clear H
    go_enter Try.func78, Try.ntmps78
    go_wp2_with (first | ((with_reducible refine gate_callee (f := 59) rfl ?_); refine goesL_ (some 12) rfl rfl Try.func59 (by kernel_rfl) rfl #[.int .i64 a0, .slice A1 l1.length c1] rfl (by (try simp only [List.map_toArray, List.map_cons, List.map_nil]); first | done | rfl | (simp only [List.length_drop, List.length_take]; rfl)) ?_; (with_reducible refine (verditerref06_Validate.calls k a0 _ _ l1 t255 _ ?side1 ?side2 A4.out).mono ?_); (case side1 => repeat (first | exact HR1.out | (with_reducible refine Kd.C_alloc ?_ _) | (with_reducible refine Kd.C_drewN ?_ _) | (with_reducible refine Kd.C_drew ?_))); (case side2 => exact HC1.out); rintro e w' ⟨rfl, ⟨nd, rfl⟩⟩; refine ⟨_, rfl, ?_⟩))
    go_loopg [8] k (fun kq v8 w' => ∃ (x8_1 : Int), v8 = .int .i64 x8_1 ∧ Aside0 (verditerref06_cased.l0 kq a0 l2 x8_1 = some r) ∧ Aside0 (kq ≤ k) ∧ Drawn0 w w')
    case atStart => exact ⟨(0), (by first | rfl | (simp; done) | (simp [*]; done)), H', ⟨Nat.le_refl _⟩, by repeat (first | exact Drawn0.refl _ | apply Drawn0.step)⟩
    case round =>
      clear H'
      try clear c1
      try clear c2
      try clear p2
      try clear c5
      try clear c5b0
      try clear c5b1
      obtain ⟨x8_1, rfl, HA, HK1, ⟨m1, rfl⟩⟩ := hrel
      cases gk with
      | zero => exact absurd HA.out (by simp [verditerref06_cased.l0])
      | succ k1 =>
        have H := HA.out
        clear HA
        simp only [verditerref06_cased.l0] at H
        by_cases c6 : x8_1 < (l2.length : Int)
        · rw [if_pos c6] at H
          have c6b0 : decide (x8_1 < (l2.length : Int)) = true := decide_eq_true c6
          clear c6
          by_cases c7 : 0 ≤ x8_1
          · rw [if_pos c7] at H
            have c7b0 : decide (0 ≤ x8_1) = true := decide_eq_true c7
            clear c7
            replace H := Option.bind_eq_some_iff.mp H
            obtain ⟨t257, A80, H⟩ := H
            replace H : (if t257 = true then (verditerref06_cased.l0 k1 a0 l2 (wrap64 (x8_1 + 1))) else (some 4)) = some r := H
            have A8 := Aside0.mk A80
            clear A80
            by_cases c9 : t257 = true
            · subst c9
              have H1 : (verditerref06_cased.l0 k1 a0 l2 (wrap64 (x8_1 + 1))) = some r := by rw [if_pos rfl] at H; exact H
              clear H
              have H := H1
              clear H1
              have H' := Aside0.mk H
              clear H
              have p256 : 0 ≤ (x8_1 : Int) := of_decide_eq_true (by first | (with_reducible assumption) | assumption)
              have q256 : x8_1 < (l2.length : Int) := of_decide_eq_true (by first | (with_reducible assumption) | assumption)
              obtain ⟨ad256, e256, hx256_0, hx256_1⟩ := at_T35 HR2.out x8_1 p256 q256
              cases e256
              replace p256 := eq_true p256
              replace q256 := eq_true q256
              go_wp2_with (first | ((with_reducible refine gate_callee (f := 82) rfl ?_); refine goesL_ (some 29) rfl rfl Try.func82 (by kernel_rfl) rfl #[.int .i64 ((rd_T35 l2 x8_1).f0), .int .i64 0, .int .i64 (wrap64 (a0 - 1))] rfl (by (try simp only [List.map_toArray, List.map_cons, List.map_nil]); first | done | rfl | (simp only [List.length_drop, List.length_take]; rfl)) ?_; (with_reducible refine (verditerref06_within.calls ((rd_T35 l2 x8_1).f0) 0 (wrap64 (a0 - 1)) true _ A8.out).mono ?_); rintro e w' ⟨rfl, ⟨nd, rfl⟩⟩; refine ⟨_, rfl, ?_⟩))
              go_roundg k1
              case measure => have := HK1.out; omega
              case rel => exact ⟨(wrap64 (x8_1 + 1)), (by first | rfl | (simp; done) | (simp [*]; done)), H', ⟨by have := HK1.out; omega⟩, by repeat (first | exact Drawn0.refl _ | apply Drawn0.step)⟩
            · replace c9 := Bool.eq_false_iff.mpr c9
              subst c9
              have H1 : (some 4) = some r := by rw [if_neg (show ¬ (false = true) by decide)] at H; exact H
              clear H
              have H := H1
              clear H1
              obtain rfl := Option.some.inj H
              have p256 : 0 ≤ (x8_1 : Int) := of_decide_eq_true (by first | (with_reducible assumption) | assumption)
              have q256 : x8_1 < (l2.length : Int) := of_decide_eq_true (by first | (with_reducible assumption) | assumption)
              obtain ⟨ad256, e256, hx256_0, hx256_1⟩ := at_T35 HR2.out x8_1 p256 q256
              cases e256
              replace p256 := eq_true p256
              replace q256 := eq_true q256
              go_wp2_with (first | ((with_reducible refine gate_callee (f := 82) rfl ?_); refine goesL_ (some 29) rfl rfl Try.func82 (by kernel_rfl) rfl #[.int .i64 ((rd_T35 l2 x8_1).f0), .int .i64 0, .int .i64 (wrap64 (a0 - 1))] rfl (by (try simp only [List.map_toArray, List.map_cons, List.map_nil]); first | done | rfl | (simp only [List.length_drop, List.length_take]; rfl)) ?_; (with_reducible refine (verditerref06_within.calls ((rd_T35 l2 x8_1).f0) 0 (wrap64 (a0 - 1)) false _ A8.out).mono ?_); rintro e w' ⟨rfl, ⟨nd, rfl⟩⟩; refine ⟨_, rfl, ?_⟩))
              go_ret
              exact ⟨by first | rfl | (simp; done) | (simp [*]; done), by repeat (first | exact Drawn0.refl _ | apply Drawn0.step)⟩
          · rw [if_neg c7] at H
            exact absurd H (by simp)
        · rw [if_neg c6] at H
          have c6b0 : decide (x8_1 < (l2.length : Int)) = false := decide_eq_false c6
          clear c6
          have H' := Aside0.mk H
          clear H
          go_wp2
          go_loopg [9] k1 (fun kq v9 w' => ∃ (x9_2 : Int), v9 = .int .i64 x9_2 ∧ Aside0 (verditerref06_cased.l1 kq l2 x9_2 = some r) ∧ Aside0 (kq ≤ k1) ∧ Drawn0 w w')
          case atStart => exact ⟨(0), (by first | rfl | (simp; done) | (simp [*]; done)), H', ⟨Nat.le_refl _⟩, by repeat (first | exact Drawn0.refl _ | apply Drawn0.step)⟩
          case round =>
            clear H'
            try clear c1
            try clear c2
            try clear p2
            try clear q2
            try clear hx2
            try clear c5
            try clear c5b0
            try clear c5b1
            try clear c6
            try clear c6b0
            try clear p6
            try clear c7
            try clear c7b0
            try clear c8
            try clear c9
            try clear hx256_0
            try clear hx256_1
            try clear p2
            try clear p256
            try clear q256
            obtain ⟨x9_2, rfl, HA, HK2, ⟨m2, rfl⟩⟩ := hrel
            cases gk with
            | zero => exact absurd HA.out (by simp [verditerref06_cased.l1])
            | succ k2 =>
              have H := HA.out
              clear HA
              simp only [verditerref06_cased.l1] at H
              by_cases c10 : x9_2 < (l2.length : Int)
              · rw [if_pos c10] at H
                have c10b0 : decide (x9_2 < (l2.length : Int)) = true := decide_eq_true c10
                clear c10
                by_cases c11 : 0 ≤ x9_2
                · rw [if_pos c11] at H
                  have c11b0 : decide (0 ≤ x9_2) = true := decide_eq_true c11
                  clear c11
                  by_cases c12 : ((rd_T35 l2 x9_2).f1) = 1
                  · rw [if_pos c12] at H
                    have c12b0 : (((rd_T35 l2 x9_2).f1) == 1) = true := beq_iff_eq.mpr c12
                    have c12b1 : (((rd_T35 l2 x9_2).f1) != 1) = false := bne_eq_false_iff_eq.mpr c12
                    clear c12
                    have H' := Aside0.mk H
                    clear H
                    have p258 : 0 ≤ (x9_2 : Int) := of_decide_eq_true (by first | (with_reducible assumption) | assumption)
                    have q258 : x9_2 < (l2.length : Int) := of_decide_eq_true (by first | (with_reducible assumption) | assumption)
                    obtain ⟨ad258, e258, hx258_0, hx258_1⟩ := at_T35 HR2.out x9_2 p258 q258
                    cases e258
                    replace p258 := eq_true p258
                    replace q258 := eq_true q258
                    go_wp2
                    go_roundg k2
                    case measure => have := HK1.out; have := HK2.out; omega
                    case rel => exact ⟨(wrap64 (x9_2 + 1)), (by first | rfl | (simp; done) | (simp [*]; done)), H', ⟨by have := HK1.out; have := HK2.out; omega⟩, by repeat (first | exact Drawn0.refl _ | apply Drawn0.step)⟩
                  · rw [if_neg c12] at H
                    have c12b0 : (((rd_T35 l2 x9_2).f1) == 1) = false := beq_eq_false_iff_ne.mpr c12
                    have c12b1 : (((rd_T35 l2 x9_2).f1) != 1) = true := bne_iff_ne.mpr c12
                    by_cases c13 : ((rd_T35 l2 x9_2).f1) = (-1)
                    · rw [if_pos c13] at H
                      have c13b0 : (((rd_T35 l2 x9_2).f1) == (-1)) = true := beq_iff_eq.mpr c13
                      have c13b1 : (((rd_T35 l2 x9_2).f1) != (-1)) = false := bne_eq_false_iff_eq.mpr c13
                      clear c13
                      have H' := Aside0.mk H
                      clear H
                      have p258 : 0 ≤ (x9_2 : Int) := of_decide_eq_true (by first | (with_reducible assumption) | assumption)
                      have q258 : x9_2 < (l2.length : Int) := of_decide_eq_true (by first | (with_reducible assumption) | assumption)
                      obtain ⟨ad258, e258, hx258_0, hx258_1⟩ := at_T35 HR2.out x9_2 p258 q258
                      cases e258
                      replace p258 := eq_true p258
                      replace q258 := eq_true q258
                      have p259 : 0 ≤ (x9_2 : Int) := of_decide_eq_true (by first | (with_reducible assumption) | assumption)
                      have q259 : x9_2 < (l2.length : Int) := of_decide_eq_true (by first | (with_reducible assumption) | assumption)
                      obtain ⟨ad259, e259, hx259_0, hx259_1⟩ := at_T35 HR2.out x9_2 p259 q259
                      obtain rfl : ad258 = ad259 := (by injection e259)
                      replace p259 := eq_true p259
                      replace q259 := eq_true q259
                      go_wp2
                      go_roundg k2
                      case measure => have := HK1.out; have := HK2.out; omega
                      case rel => exact ⟨(wrap64 (x9_2 + 1)), (by first | rfl | (simp; done) | (simp [*]; done)), H', ⟨by have := HK1.out; have := HK2.out; omega⟩, by repeat (first | exact Drawn0.refl _ | apply Drawn0.step)⟩
                    · rw [if_neg c13] at H
                      have c13b0 : (((rd_T35 l2 x9_2).f1) == (-1)) = false := beq_eq_false_iff_ne.mpr c13
                      have c13b1 : (((rd_T35 l2 x9_2).f1) != (-1)) = true := bne_iff_ne.mpr c13
                      obtain rfl := Option.some.inj H
                      have p258 : 0 ≤ (x9_2 : Int) := of_decide_eq_true (by first | (with_reducible assumption) | assumption)
                      have q258 : x9_2 < (l2.length : Int) := of_decide_eq_true (by first | (with_reducible assumption) | assumption)
                      obtain ⟨ad258, e258, hx258_0, hx258_1⟩ := at_T35 HR2.out x9_2 p258 q258
                      cases e258
                      replace p258 := eq_true p258
                      replace q258 := eq_true q258
                      have p259 : 0 ≤ (x9_2 : Int) := of_decide_eq_true (by first | (with_reducible assumption) | assumption)
                      have q259 : x9_2 < (l2.length : Int) := of_decide_eq_true (by first | (with_reducible assumption) | assumption)
                      obtain ⟨ad259, e259, hx259_0, hx259_1⟩ := at_T35 HR2.out x9_2 p259 q259
                      obtain rfl : ad258 = ad259 := (by injection e259)
                      replace p259 := eq_true p259
                      replace q259 := eq_true q259
                      go_wp2
                      go_ret
                      exact ⟨by first | rfl | (simp; done) | (simp [*]; done), by repeat (first | exact Drawn0.refl _ | apply Drawn0.step)⟩
                · rw [if_neg c11] at H
                  exact absurd H (by simp)
              · rw [if_neg c10] at H
                have c10b0 : decide (x9_2 < (l2.length : Int)) = false := decide_eq_false c10
                clear c10
                obtain rfl := Option.some.inj H
                go_wp2
                go_ret
                exact ⟨by first | rfl | (simp; done) | (simp [*]; done), by repeat (first | exact Drawn0.refl _ | apply Drawn0.step)⟩
  · rw [if_neg c5] at H
    have c5b0 : (t255 == 0) = false := beq_eq_false_iff_ne.mpr c5
    have c5b1 : (t255 != 0) = true := bne_iff_ne.mpr c5
    obtain rfl := Option.some.inj H
    go_enter Try.func78, Try.ntmps78
    go_wp2_with (first | ((with_reducible refine gate_callee (f := 59) rfl ?_); refine goesL_ (some 12) rfl rfl Try.func59 (by kernel_rfl) rfl #[.int .i64 a0, .slice A1 l1.length c1] rfl (by (try simp only [List.map_toArray, List.map_cons, List.map_nil]); first | done | rfl | (simp only [List.length_drop, List.length_take]; rfl)) ?_; (with_reducible refine (verditerref06_Validate.calls k a0 _ _ l1 t255 _ ?side1 ?side2 A4.out).mono ?_); (case side1 => repeat (first | exact HR1.out | (with_reducible refine Kd.C_alloc ?_ _) | (with_reducible refine Kd.C_drewN ?_ _) | (with_reducible refine Kd.C_drew ?_))); (case side2 => exact HC1.out); rintro e w' ⟨rfl, ⟨nd, rfl⟩⟩; refine ⟨_, rfl, ?_⟩))
    go_ret
    exact ⟨by first | rfl | (simp; done) | (simp [*]; done), by repeat (first | exact Drawn0.refl _ | apply Drawn0.step)⟩

end Go.Proofs.Ytdbeochifofdoaa.X
end

section
-- Written by a program of this session (wip/hook.py, which runs the kit's print.py with contracts proved by hand). Not trusted: Lean checks it.
namespace Go.Proofs.Ytdbeochifofdoaa.X
open Go.RowKit Go.Proofs.YtdbeochifofdoaaW.PrintWords Go.Proofs.YtdbeochifofdoaaW.PrintLast Go.Proofs.YtdbeochifofdoaaW.PrintMore
attribute [local go_sem] max2_int min2_int max_two min_two max_three min_three max_four min_four   -- for this text's walks alone
set_option linter.unusedVariables false
set_option linter.unusedSimpArgs false

attribute [local go_sem high] eqA35
/-! ### verditerref06_CheckBad: function 46 -/
def verditerref06_CheckBad.f (k : Nat) (a0 : Int) (l1 : List (S53)) (a2_0 : Int) (a2_1 : Int) (a3_0 : Int) (a3_1 : Int) : Option (Int) := (verditerref06_cased.f k a0 l1 (([(⟨a2_0, a2_1⟩ : S35), (⟨a3_0, a3_1⟩ : S35)] : List (S35)))).bind fun t265 => (if t265 = 0 then ((verditerref06_mark.f k l1 a2_0).bind fun t266 => ((verditerref06_times.f k t266 a2_1).bind fun t269 => ((verditerref06_mark.f k l1 a3_0).bind fun t272 => ((verditerref06_times.f k t272 a3_1).bind fun t275 => (if (!(a2_0 == a3_0) || (!(a2_1 == a3_1))) = true then ((verditerref06_SameInts.f k t269 t275).bind fun t278 => (if t278 = true then (some 0) else (if (a2_0 == a3_0 && (a2_1 == a3_1)) = true then ((verditerref06_isBlank.f k t269).bind fun t279 => (if t279 = true then (some 0) else (some 7))) else (some 7)))) else (if (a2_0 == a3_0 && (a2_1 == a3_1)) = true then ((verditerref06_isBlank.f k t269).bind fun t280 => (if t280 = true then (some 0) else (some 7))) else (some 7))))))) else (some t265))
theorem verditerref06_CheckBad.mono : ∀ a0 a1 a2 a3 a4 a5 k, LeO (verditerref06_CheckBad.f k a0 a1 a2 a3 a4 a5) (verditerref06_CheckBad.f (k + 1) a0 a1 a2 a3 a4 a5) := by
  intro a0 a1 a2 a3 a4 a5 k
  unfold verditerref06_CheckBad.f
  repeat' first
      | (with_reducible exact verditerref06_SameInts.mono _ _ _)
      | (with_reducible exact verditerref06_cased.mono _ _ _ _)
      | (with_reducible exact verditerref06_isBlank.mono _ _)
      | (with_reducible exact verditerref06_mark.mono _ _ _)
      | (with_reducible exact verditerref06_times.mono _ _ _)
      | (with_reducible exact LeO.refl _)
      | (with_reducible exact LeO.none _)
      | (with_reducible refine LeO.ite ?_ ?_)
      | (with_reducible refine LeO.bind ?_ (fun _ => ?_))
      | exact verditerref06_SameInts.mono _ _ _
      | exact verditerref06_cased.mono _ _ _ _
      | exact verditerref06_isBlank.mono _ _
      | exact verditerref06_mark.mono _ _ _
      | exact verditerref06_times.mono _ _ _
      | exact LeO.none _
      | refine LeO.ite ?_ ?_
      | refine LeO.bind ?_ (fun _ => ?_)
def verditerref06_CheckBad.T4 : Bool × List (List Nat × List Nat) := (true, [([], []), ([], []), ([1], [1]), ([0, 2], [0, 2]), ([], []), ([4], [4]), ([3, 5, 3], [3, 5]), ([], []), ([], []), ([8], [8]), ([7, 9, 6], [7, 9]), ([], []), ([11], [11]), ([10, 12, 10], [10, 12]), ([6, 13, 0, 1, 2, 3, 4, 5, 6], [6]), ([13, 14, 0, 1, 2, 3, 4, 5, 6, 7, 8, 9, 10, 11, 12, 13, 14], [13])])
def verditerref06_CheckBad.B4 : List Nat := [0, 0, 2, 7, 0, 16, 63, 0, 0, 256, 1023, 0, 2048, 8191, 16383, 32767]
theorem verditerref06_CheckBad.tab4 : rtab .any (opsOf Try.f46 4) = verditerref06_CheckBad.T4 := by kernel_rfl
theorem verditerref06_CheckBad.bits4 : waitsOk verditerref06_CheckBad.T4.2 verditerref06_CheckBad.B4 = true := by kernel_rfl
set_option maxHeartbeats 8000000 in
set_option maxRecDepth 100000 in
theorem verditerref06_CheckBad.calls (k : Nat) (a0 : Int) (A1 : Option Addr) (c1 : Nat) (l1 : List (S53)) (a2_0 : Int) (a2_1 : Int) (a3_0 : Int) (a3_1 : Int) (r : Int) (w : World) (hr1 : Kd.C k53 w A1 l1.length l1) (hc1 : l1.length ≤ c1) (h : verditerref06_CheckBad.f k a0 l1 a2_0 a2_1 a3_0 a3_1 = some r) :
    Calls Try.prog 46 #[.int .i64 a0, .slice A1 l1.length c1, .agg #[.int .i64 a2_0, .int .i64 a2_1], .agg #[.int .i64 a3_0, .int .i64 a3_1]] w fun e w' => e = .returned (.int .i64 r) ∧ Below w.heap.size w w' := by
  have hu35 := Try.underlying35
  have HR1 := Aside0.mk hr1
  have HC1 := Aside0.mk hc1
  clear hr1 hc1
  have HB := Aside0.mk (Below.refl w.heap.size w)
  have H : ((verditerref06_cased.f k a0 l1 (([(⟨a2_0, a2_1⟩ : S35), (⟨a3_0, a3_1⟩ : S35)] : List (S35)))).bind fun t265 => (if t265 = 0 then ((verditerref06_mark.f k l1 a2_0).bind fun t266 => ((verditerref06_times.f k t266 a2_1).bind fun t269 => ((verditerref06_mark.f k l1 a3_0).bind fun t272 => ((verditerref06_times.f k t272 a3_1).bind fun t275 => (if (!(a2_0 == a3_0) || (!(a2_1 == a3_1))) = true then ((verditerref06_SameInts.f k t269 t275).bind fun t278 => (if t278 = true then (some 0) else (if (a2_0 == a3_0 && (a2_1 == a3_1)) = true then ((verditerref06_isBlank.f k t269).bind fun t279 => (if t279 = true then (some 0) else (some 7))) else (some 7)))) else (if (a2_0 == a3_0 && (a2_1 == a3_1)) = true then ((verditerref06_isBlank.f k t269).bind fun t280 => (if t280 = true then (some 0) else (some 7))) else (some 7))))))) else (some t265))) = some r := h
  clear h
  obtain ⟨y262, hy262⟩ : ∃ y_ : List (S35), y_ = (([(⟨a2_0, a2_1⟩ : S35), (⟨a3_0, a3_1⟩ : S35)] : List (S35))) := ⟨_, rfl⟩
  replace H : ((verditerref06_cased.f k a0 l1 y262).bind fun t265 => (if t265 = 0 then ((verditerref06_mark.f k l1 a2_0).bind fun t266 => ((verditerref06_times.f k t266 a2_1).bind fun t269 => ((verditerref06_mark.f k l1 a3_0).bind fun t272 => ((verditerref06_times.f k t272 a3_1).bind fun t275 => (if (!(a2_0 == a3_0) || (!(a2_1 == a3_1))) = true then ((verditerref06_SameInts.f k t269 t275).bind fun t278 => (if t278 = true then (some 0) else (if (a2_0 == a3_0 && (a2_1 == a3_1)) = true then ((verditerref06_isBlank.f k t269).bind fun t279 => (if t279 = true then (some 0) else (some 7))) else (some 7)))) else (if (a2_0 == a3_0 && (a2_1 == a3_1)) = true then ((verditerref06_isBlank.f k t269).bind fun t280 => (if t280 = true then (some 0) else (some 7))) else (some 7))))))) else (some t265))) = some r := by first | (rw [hy262]; with_reducible exact H) | (have H2_ := (Option.bind_some _ _).symm.trans H; rw [hy262]; with_reducible exact H2_) | (have H2_ := (Option.bind_some _ _).symm.trans H; with_reducible exact H2_) | with_reducible exact H | (rw [hy262]; exact H) | exact H
  have Ny262 := Aside0.mk hy262
  clear hy262
  replace H := Option.bind_eq_some_iff.mp H
  obtain ⟨t265, A50, H⟩ := H
  replace H : (if t265 = 0 then ((verditerref06_mark.f k l1 a2_0).bind fun t266 => ((verditerref06_times.f k t266 a2_1).bind fun t269 => ((verditerref06_mark.f k l1 a3_0).bind fun t272 => ((verditerref06_times.f k t272 a3_1).bind fun t275 => (if (!(a2_0 == a3_0) || (!(a2_1 == a3_1))) = true then ((verditerref06_SameInts.f k t269 t275).bind fun t278 => (if t278 = true then (some 0) else (if (a2_0 == a3_0 && (a2_1 == a3_1)) = true then ((verditerref06_isBlank.f k t269).bind fun t279 => (if t279 = true then (some 0) else (some 7))) else (some 7)))) else (if (a2_0 == a3_0 && (a2_1 == a3_1)) = true then ((verditerref06_isBlank.f k t269).bind fun t280 => (if t280 = true then (some 0) else (some 7))) else (some 7))))))) else (some t265)) = some r := H
  have A5 := Aside0.mk A50
  clear A50
  by_cases c6 : t265 = 0
  · rw [if_pos c6] at H
    have c6b0 : (t265 == 0) = true := beq_iff_eq.mpr c6
    have c6b1 : (t265 != 0) = false := bne_eq_false_iff_eq.mpr c6
    clear c6
    replace H := Option.bind_eq_some_iff.mp H
    obtain ⟨t266, A70, H⟩ := H
    replace H : ((verditerref06_times.f k t266 a2_1).bind fun t269 => ((verditerref06_mark.f k l1 a3_0).bind fun t272 => ((verditerref06_times.f k t272 a3_1).bind fun t275 => (if (!(a2_0 == a3_0) || (!(a2_1 == a3_1))) = true then ((verditerref06_SameInts.f k t269 t275).bind fun t278 => (if t278 = true then (some 0) else (if (a2_0 == a3_0 && (a2_1 == a3_1)) = true then ((verditerref06_isBlank.f k t269).bind fun t279 => (if t279 = true then (some 0) else (some 7))) else (some 7)))) else (if (a2_0 == a3_0 && (a2_1 == a3_1)) = true then ((verditerref06_isBlank.f k t269).bind fun t280 => (if t280 = true then (some 0) else (some 7))) else (some 7)))))) = some r := H
    have A7 := Aside0.mk A70
    clear A70
    replace H := Option.bind_eq_some_iff.mp H
    obtain ⟨t269, A80, H⟩ := H
    replace H : ((verditerref06_mark.f k l1 a3_0).bind fun t272 => ((verditerref06_times.f k t272 a3_1).bind fun t275 => (if (!(a2_0 == a3_0) || (!(a2_1 == a3_1))) = true then ((verditerref06_SameInts.f k t269 t275).bind fun t278 => (if t278 = true then (some 0) else (if (a2_0 == a3_0 && (a2_1 == a3_1)) = true then ((verditerref06_isBlank.f k t269).bind fun t279 => (if t279 = true then (some 0) else (some 7))) else (some 7)))) else (if (a2_0 == a3_0 && (a2_1 == a3_1)) = true then ((verditerref06_isBlank.f k t269).bind fun t280 => (if t280 = true then (some 0) else (some 7))) else (some 7))))) = some r := H
    have A8 := Aside0.mk A80
    clear A80
    replace H := Option.bind_eq_some_iff.mp H
    obtain ⟨t272, A90, H⟩ := H
    replace H : ((verditerref06_times.f k t272 a3_1).bind fun t275 => (if (!(a2_0 == a3_0) || (!(a2_1 == a3_1))) = true then ((verditerref06_SameInts.f k t269 t275).bind fun t278 => (if t278 = true then (some 0) else (if (a2_0 == a3_0 && (a2_1 == a3_1)) = true then ((verditerref06_isBlank.f k t269).bind fun t279 => (if t279 = true then (some 0) else (some 7))) else (some 7)))) else (if (a2_0 == a3_0 && (a2_1 == a3_1)) = true then ((verditerref06_isBlank.f k t269).bind fun t280 => (if t280 = true then (some 0) else (some 7))) else (some 7)))) = some r := H
    have A9 := Aside0.mk A90
    clear A90
    replace H := Option.bind_eq_some_iff.mp H
    obtain ⟨t275, A100, H⟩ := H
    replace H : (if (!(a2_0 == a3_0) || (!(a2_1 == a3_1))) = true then ((verditerref06_SameInts.f k t269 t275).bind fun t278 => (if t278 = true then (some 0) else (if (a2_0 == a3_0 && (a2_1 == a3_1)) = true then ((verditerref06_isBlank.f k t269).bind fun t279 => (if t279 = true then (some 0) else (some 7))) else (some 7)))) else (if (a2_0 == a3_0 && (a2_1 == a3_1)) = true then ((verditerref06_isBlank.f k t269).bind fun t280 => (if t280 = true then (some 0) else (some 7))) else (some 7))) = some r := H
    have A10 := Aside0.mk A100
    clear A100
    go_enter Try.func46, Try.ntmps46
    try go_wp2_with (first | ((with_reducible refine gate_dst (N := 6) rfl ?_); refine box_event ?hg (N := 6) ?hd (cs := #[.int .i64 a2_0, .int .i64 a2_1]) (t := 35) ?hr ?_; (case hd => rfl); (case hg => rfl); (case hr => first | (go_simp; done) | (go_simp; rfl)); intro gb260 hg w14 hbox hb; have n0_ := Aside0.mk (below_step (by repeat (first | (with_reducible first | exact HB.out | apply below_alloc | apply pw_below_drewN | apply below_drew1) | exact HB.out)) hb); have n1_ := Aside0.mk (hbox); have n2_ := Aside0.mk ((by rw [hg]; exact (below_size (by repeat (first | (with_reducible first | exact HB.out | apply below_alloc | apply pw_below_drewN | apply below_drew1) | exact HB.out))) : w.heap.size ≤ gb260)); have n3_ := Aside0.mk ((by rw [hg]; exact (below_size (by repeat (first | (with_reducible first | exact HB.out | apply below_alloc | apply pw_below_drewN | apply below_drew1) | exact HB.out))) : w.heap.size ≤ gb260)); clear HB; have HB := n0_; have BK260 := n1_; have GW260 := n2_; have GE260 := n3_; clear n0_ n1_ n2_ n3_; clear hb hbox hg) | ((with_reducible refine gate_dst (N := 7) rfl ?_); refine box_event ?hg (N := 7) ?hd (cs := #[.int .i64 a3_0, .int .i64 a3_1]) (t := 35) ?hr ?_; (case hd => rfl); (case hg => rfl); (case hr => first | (go_simp; done) | (go_simp; rfl)); intro gb261 hg w15 hbox hb; have n0_ := Aside0.mk (blk_below (g := gb260) (o := .cells #[.int .i64 a2_0, .int .i64 a2_1] 35 (0, 0)) (by (with_reducible repeat (first | refine blk_drewN ?_ _ | refine blk_drew ?_ | refine blk_alloc ?_ _)); exact BK260.out) hb); have n1_ := Aside0.mk (below_step (by repeat (first | (with_reducible first | exact HB.out | apply below_alloc | apply pw_below_drewN | apply below_drew1 | refine below_set ?_ GE260.out) | exact HB.out)) hb); have n2_ := Aside0.mk (hbox); have n3_ := Aside0.mk ((by rw [hg]; exact (below_size (by repeat (first | (with_reducible first | exact HB.out | apply below_alloc | apply pw_below_drewN | apply below_drew1 | refine below_set ?_ GE260.out) | exact HB.out))) : w.heap.size ≤ gb261)); have n4_ := Aside0.mk ((by rw [hg]; exact (below_size (by repeat (first | (with_reducible first | exact HB.out | apply below_alloc | apply pw_below_drewN | apply below_drew1 | refine below_set ?_ GE260.out) | exact HB.out))) : w.heap.size ≤ gb261)); have n5_ := Aside0.mk ((by rw [hg]; exact Nat.ne_of_lt (blk_lt (g := gb260) (o := .cells #[.int .i64 a2_0, .int .i64 a2_1] 35 (0, 0)) (by (with_reducible repeat (first | refine blk_drewN ?_ _ | refine blk_drew ?_ | refine blk_alloc ?_ _)); exact BK260.out)) : gb260 ≠ gb261)); have n6_ := Aside0.mk ((by rw [hg]; exact Nat.ne_of_gt (blk_lt (g := gb260) (o := .cells #[.int .i64 a2_0, .int .i64 a2_1] 35 (0, 0)) (by (with_reducible repeat (first | refine blk_drewN ?_ _ | refine blk_drew ?_ | refine blk_alloc ?_ _)); exact BK260.out)) : gb261 ≠ gb260)); clear BK260; clear HB; have BK260 := n0_; have HB := n1_; have BK261 := n2_; have GW261 := n3_; have GE261 := n4_; have NB260_261 := n5_; have NB261_260 := n6_; clear n0_ n1_ n2_ n3_ n4_ n5_ n6_; clear hb hbox hg; have hnb16 := NB260_261.out; have hnc16 := NB261_260.out; have hcz17_0 : w15.cell? ⟨gb260, 0, none⟩ = some (.int .i64 a2_0) := (blk_cell BK260.out 0).trans rfl; have hcz17_1 : w15.cell? ⟨gb260, 1, none⟩ = some (.int .i64 a2_1) := (blk_cell BK260.out 1).trans rfl; have hfz17_0 := blk_frozen BK260.out 0; have hfz17_1 := blk_frozen BK260.out 1; have hcz18_0 : w15.cell? ⟨gb261, 0, none⟩ = some (.int .i64 a3_0) := (blk_cell BK261.out 0).trans rfl; have hcz18_1 : w15.cell? ⟨gb261, 1, none⟩ = some (.int .i64 a3_1) := (blk_cell BK261.out 1).trans rfl; have hfz18_0 := blk_frozen BK261.out 0; have hfz18_1 := blk_frozen BK261.out 1) | ((with_reducible refine gate_dst (N := 16) rfl ?_); refine Kd.R_lit k35 _ 35 ?hg (N := 16) ?hd (xs := ([(⟨a2_0, a2_1⟩ : S35), (⟨a3_0, a3_1⟩ : S35)] : List (S35))) (inner := [.int .i64 a2_0, .int .i64 a2_1, .int .i64 a3_0, .int .i64 a3_1]) (ok := fun _ => True) (okp := fun _ => True) ?hr ?hp (fun _ hk => hk) trivial (Below.refl _ _) (Nat.le_refl _) (by simp) ?_; (case hd => rfl); (case hg => rfl); (case hr => first | (go_simp; done) | (go_simp; rfl)); (case hp => exact (Reps.c2 (show Kd.M k35 _ _ _ (⟨a2_0, a2_1⟩ : S35) [.int .i64 a2_0, .int .i64 a2_1] from (k35_mkM _ _ _ (⟨a2_0, a2_1⟩ : S35) )) (Reps.c2 (show Kd.M k35 _ _ _ (⟨a3_0, a3_1⟩ : S35) [.int .i64 a3_0, .int .i64 a3_1] from (k35_mkM _ _ _ (⟨a3_0, a3_1⟩ : S35) )) (Reps.none _ _)))); intro v263 w19 ho20 hb hg_ hnew_; clear hg_ hnew_; (first | rw [← Ny262.out] at ho20 | (simp only [Int.reduceToNat] at ho20; rw [← Ny262.out] at ho20)); have n0_ := Aside0.mk (Kd.R_lower (Kd.R_newB (Kd.R_newB ho20 (g := gb260) (o := .cells #[.int .i64 a2_0, .int .i64 a2_1] 35 (0, 0)) (by (with_reducible repeat (first | refine blk_drewN ?_ _ | refine blk_drew ?_ | refine blk_alloc ?_ _)); exact BK260.out)) (g := gb261) (o := .cells #[.int .i64 a3_0, .int .i64 a3_1] 35 (0, 0)) (by (with_reducible repeat (first | refine blk_drewN ?_ _ | refine blk_drew ?_ | refine blk_alloc ?_ _)); exact BK261.out)) (below_size (by repeat (first | (with_reducible first | exact HB.out | apply below_alloc | apply pw_below_drewN | apply below_drew1 | refine below_set ?_ GE260.out | refine below_set ?_ GE261.out) | exact HB.out)))); have n1_ := Aside0.mk (blk_below (g := gb260) (o := .cells #[.int .i64 a2_0, .int .i64 a2_1] 35 (0, 0)) (by (with_reducible repeat (first | refine blk_drewN ?_ _ | refine blk_drew ?_ | refine blk_alloc ?_ _)); exact BK260.out) hb); have n2_ := Aside0.mk (blk_below (g := gb261) (o := .cells #[.int .i64 a3_0, .int .i64 a3_1] 35 (0, 0)) (by (with_reducible repeat (first | refine blk_drewN ?_ _ | refine blk_drew ?_ | refine blk_alloc ?_ _)); exact BK261.out) hb); have n3_ := Aside0.mk (below_step (by repeat (first | (with_reducible first | exact HB.out | apply below_alloc | apply pw_below_drewN | apply below_drew1 | refine below_set ?_ GE260.out | refine below_set ?_ GE261.out) | exact HB.out)) hb); clear BK260; clear BK261; clear HB; have HO264 := n0_; have BK260 := n1_; have BK261 := n2_; have HB := n3_; clear n0_ n1_ n2_ n3_; clear hb ho20; obtain ⟨Ao21, co21, eo21⟩ := Kd.R_slice HO264.out; subst eo21) | ((with_reducible refine gate_callee (f := 78) rfl ?_); refine goesL_ (some 17) rfl rfl Try.func78 (by kernel_rfl) rfl #[.int .i64 a0, .slice A1 l1.length c1, .slice Ao21 y262.length co21] rfl (by (try simp only [List.map_toArray, List.map_cons, List.map_nil]); first | done | rfl | (simp only [List.length_drop, List.length_take]; rfl)) ?_; (with_reducible refine (verditerref06_cased.calls k a0 _ _ l1 _ _ y262 t265 _ ?side1 ?side2 ?side3 ?side4 A5.out).mono ?_); (case side1 => repeat (first | exact (Kd.C_below HR1.out HB.out) | (with_reducible refine Kd.C_alloc ?_ _) | (with_reducible refine Kd.C_drewN ?_ _) | (with_reducible refine Kd.C_drew ?_))); (case side2 => exact HC1.out); (case side3 => repeat (first | exact (Kd.R_reads' HO264.out).2.2 | (with_reducible refine Kd.C_alloc ?_ _) | (with_reducible refine Kd.C_drewN ?_ _) | (with_reducible refine Kd.C_drew ?_))); (case side4 => exact (Kd.R_reads' HO264.out).2.1); rintro e w' ⟨rfl, ⟨nd, rfl⟩⟩; refine ⟨_, rfl, ?_⟩))
    (try (rw [drewN_self w19]; generalize hq_ : World.drewN w19 _ = w19; have n0_ : Aside0 (Kd.R k35 35 w19 w.heap.size (fun k_ => k_ ≠ gb260 ∧ k_ ≠ gb261) (.slice Ao21 y262.length co21) y262) := ⟨by rw [← hq_]; exact (by (with_reducible repeat (first | apply Kd.R_alloc | apply Kd.R_drewN | apply Kd.R_drew)); exact Kd.R_mono HO264.out (fun _ hk => ⟨hk.1.2, hk.2⟩))⟩; have n1_ : Aside0 (w19.heap[gb260]? = some (.cells #[.int .i64 a2_0, .int .i64 a2_1] 35 (0, 0))) := ⟨by rw [← hq_]; exact (by (with_reducible repeat (first | refine blk_drewN ?_ _ | refine blk_drew ?_ | refine blk_alloc ?_ _)); exact BK260.out)⟩; have n2_ : Aside0 (w19.heap[gb261]? = some (.cells #[.int .i64 a3_0, .int .i64 a3_1] 35 (0, 0))) := ⟨by rw [← hq_]; exact (by (with_reducible repeat (first | refine blk_drewN ?_ _ | refine blk_drew ?_ | refine blk_alloc ?_ _)); exact BK261.out)⟩; have n3_ : Aside0 (Below w.heap.size w w19) := ⟨by rw [← hq_]; exact (by repeat (first | (with_reducible first | exact HB.out | apply below_alloc | apply pw_below_drewN | apply below_drew1 | refine below_set ?_ GE260.out | refine below_set ?_ GE261.out) | exact HB.out))⟩; clear HO264 BK260 BK261 HB hq_; have HO264 := n0_; have BK260 := n1_; have BK261 := n2_; have HB := n3_; clear n0_ n1_ n2_ n3_))
    have n0_ := Aside0.mk (Kd.R_drew HO264.out)
    have n1_ := Aside0.mk (blk_drew BK260.out)
    have n2_ := Aside0.mk (blk_drew BK261.out)
    have n3_ := Aside0.mk (below_drew1 HB.out)
    clear HO264
    clear BK260
    clear BK261
    clear HB
    have HO264 := n0_
    have BK260 := n1_
    have BK261 := n2_
    have HB := n3_
    clear n0_ n1_ n2_ n3_
    refine start_ (n := 16) (S := fun w' => w'.cell? ⟨gb260, 0, none⟩ = some (.int .i64 a2_0) ∧ w'.cell? ⟨gb260, 1, none⟩ = some (.int .i64 a2_1) ∧ w'.cell? ⟨gb261, 0, none⟩ = some (.int .i64 a3_0) ∧ w'.cell? ⟨gb261, 1, none⟩ = some (.int .i64 a3_1)) (ds := []) #[false, false, false, false, false, false, false, false, false, false, false, false, false, false, false, false] (by kernel_rfl) rfl rfl ⟨(blk_cell BK260.out 0).trans rfl, (blk_cell BK260.out 1).trans rfl, (blk_cell BK261.out 0).trans rfl, (blk_cell BK261.out 1).trans rfl⟩ (fun hHeld => ?_); refine with_tabW verditerref06_CheckBad.tab4 verditerref06_CheckBad.bits4 (fun HT_ HW_ => ?_)
    generalize w19.drew = w22 at HO264 BK260 BK261 HB hHeld ⊢
    refine pure_ (i := 0) (N := some 21) (v := ?_) (a' := ?_) #[true, false, false, false, false, false, false, false, false, false, false, false, false, false, false, false] rfl rfl (any_of HT_.out (by kernel_rfl)) (fun _ _ _ h => h) (Or.inl ⟨by rfl, ?_⟩) ?_ ?_
    rotate_left
    · intro w'
      go_simp
      with_reducible rfl
    rotate_left
    · simp only [Act.put, List.setIfInBounds_toArray, List.set_cons_zero, List.set_cons_succ, i64_w, i32_w]
      rfl
    refine pure_ (i := 1) (N := some 22) (v := ?_) (a' := ?_) #[true, true, false, false, false, false, false, false, false, false, false, false, false, false, false, false] rfl rfl (any_of HT_.out (by kernel_rfl)) (fun _ _ _ h => h) (Or.inl ⟨by rfl, ?_⟩) ?_ ?_
    rotate_left
    · intro w'
      go_simp
      with_reducible rfl
    rotate_left
    · simp only [Act.put, List.setIfInBounds_toArray, List.set_cons_zero, List.set_cons_succ, i64_w, i32_w]
      rfl
    refine pure_ (i := 4) (N := some 25) (v := ?_) (a' := ?_) #[true, true, false, false, true, false, false, false, false, false, false, false, false, false, false, false] rfl rfl (any_of HT_.out (by kernel_rfl)) (fun _ _ _ h => h) (Or.inl ⟨by rfl, ?_⟩) ?_ ?_
    rotate_left
    · intro w'
      go_simp
      with_reducible rfl
    rotate_left
    · simp only [Act.put, List.setIfInBounds_toArray, List.set_cons_zero, List.set_cons_succ, i64_w, i32_w]
      rfl
    refine pure_ (i := 7) (N := some 28) (v := ?_) (a' := ?_) #[true, true, false, false, true, false, false, true, false, false, false, false, false, false, false, false] rfl rfl (any_of HT_.out (by kernel_rfl)) (fun _ _ _ h => h) (Or.inl ⟨by rfl, ?_⟩) ?_ ?_
    rotate_left
    · intro w'
      go_simp
      with_reducible rfl
    rotate_left
    · simp only [Act.put, List.setIfInBounds_toArray, List.set_cons_zero, List.set_cons_succ, i64_w, i32_w]
      rfl
    refine pure_ (i := 8) (N := some 29) (v := ?_) (a' := ?_) #[true, true, false, false, true, false, false, true, true, false, false, false, false, false, false, false] rfl rfl (any_of HT_.out (by kernel_rfl)) (fun _ _ _ h => h) (Or.inl ⟨by rfl, ?_⟩) ?_ ?_
    rotate_left
    · intro w'
      go_simp
      with_reducible rfl
    rotate_left
    · simp only [Act.put, List.setIfInBounds_toArray, List.set_cons_zero, List.set_cons_succ, i64_w, i32_w]
      rfl
    refine pure_ (i := 11) (N := some 32) (v := ?_) (a' := ?_) #[true, true, false, false, true, false, false, true, true, false, false, true, false, false, false, false] rfl rfl (any_of HT_.out (by kernel_rfl)) (fun _ _ _ h => h) (Or.inl ⟨by rfl, ?_⟩) ?_ ?_
    rotate_left
    · intro w'
      go_simp
      with_reducible rfl
    rotate_left
    · simp only [Act.put, List.setIfInBounds_toArray, List.set_cons_zero, List.set_cons_succ, i64_w, i32_w]
      rfl
    refine take_ (i := 2) (N := some 23) (v := ?_) (a' := ?_) #[true, true, true, false, true, false, false, true, true, false, false, true, false, false, false, false] rfl rfl (take_ofW HT_.out HW_.out (by kernel_rfl)) (fun _ _ _ h => h) (Or.inl ⟨by rfl, ?_⟩) hHeld ?_ ?_
    rotate_left
    · rintro w' ⟨s0, s1, s2, s3⟩
      go_simp
      with_reducible rfl
    rotate_left
    · simp only [Act.put, List.setIfInBounds_toArray, List.set_cons_zero, List.set_cons_succ, i64_w, i32_w]
      rfl
    refine take_ (i := 5) (N := some 26) (v := ?_) (a' := ?_) #[true, true, true, false, true, true, false, true, true, false, false, true, false, false, false, false] rfl rfl (take_ofW HT_.out HW_.out (by kernel_rfl)) (fun _ _ _ h => h) (Or.inl ⟨by rfl, ?_⟩) hHeld ?_ ?_
    rotate_left
    · rintro w' ⟨s0, s1, s2, s3⟩
      go_simp
      with_reducible rfl
    rotate_left
    · simp only [Act.put, List.setIfInBounds_toArray, List.set_cons_zero, List.set_cons_succ, i64_w, i32_w]
      rfl
    refine take_ (i := 9) (N := some 30) (v := ?_) (a' := ?_) #[true, true, true, false, true, true, false, true, true, true, false, true, false, false, false, false] rfl rfl (take_ofW HT_.out HW_.out (by kernel_rfl)) (fun _ _ _ h => h) (Or.inl ⟨by rfl, ?_⟩) hHeld ?_ ?_
    rotate_left
    · rintro w' ⟨s0, s1, s2, s3⟩
      go_simp
      with_reducible rfl
    rotate_left
    · simp only [Act.put, List.setIfInBounds_toArray, List.set_cons_zero, List.set_cons_succ, i64_w, i32_w]
      rfl
    refine take_ (i := 12) (N := some 33) (v := ?_) (a' := ?_) #[true, true, true, false, true, true, false, true, true, true, false, true, true, false, false, false] rfl rfl (take_ofW HT_.out HW_.out (by kernel_rfl)) (fun _ _ _ h => h) (Or.inl ⟨by rfl, ?_⟩) hHeld ?_ ?_
    rotate_left
    · rintro w' ⟨s0, s1, s2, s3⟩
      go_simp
      with_reducible rfl
    rotate_left
    · simp only [Act.put, List.setIfInBounds_toArray, List.set_cons_zero, List.set_cons_succ, i64_w, i32_w]
      rfl
    refine one_ (i := 3) (N := some 24) #[true, true, true, true, true, true, false, true, true, true, false, true, true, false, false, false] rfl rfl (one_of HT_.out (by kernel_rfl)) (by decide) (fun K hK => ?_)
    refine goes_ Try.func80 (by kernel_rfl) rfl #[.slice A1 l1.length c1, .int .i64 a2_0] (by rfl) rfl rfl (by (try simp only [List.map_toArray, List.map_cons, List.map_nil]); first | done | rfl | (simp only [List.length_drop, List.length_take]; rfl)) ?_
    with_reducible refine (verditerref06_mark.calls k _ _ l1 a2_0 t266 _ ?side1 ?side2 A7.out).mono ?_
    (case side1 => repeat (first | exact (Kd.C_below HR1.out HB.out) | (with_reducible refine Kd.C_alloc ?_ _) | (with_reducible refine Kd.C_drewN ?_ _) | (with_reducible refine Kd.C_drew ?_)))
    (case side2 => exact HC1.out)
    rintro e w23 ⟨v267, rfl, ho0, hb⟩
    refine ⟨_, rfl, ?_⟩
    have n0_ := Aside0.mk (Kd.R_below (by (with_reducible repeat (first | apply Kd.R_alloc | apply Kd.R_drewN | apply Kd.R_drew)); exact HO264.out) hb)
    have n1_ := Aside0.mk (Kd.R_lower ho0 (below_size (by repeat (first | (with_reducible first | exact HB.out | apply below_alloc | apply pw_below_drewN | apply below_drew1 | refine below_set ?_ GE260.out | refine below_set ?_ GE261.out) | exact HB.out))))
    have n2_ := Aside0.mk (blk_below (g := gb260) (o := .cells #[.int .i64 a2_0, .int .i64 a2_1] 35 (0, 0)) (by (with_reducible repeat (first | refine blk_drewN ?_ _ | refine blk_drew ?_ | refine blk_alloc ?_ _)); exact BK260.out) hb)
    have n3_ := Aside0.mk (blk_below (g := gb261) (o := .cells #[.int .i64 a3_0, .int .i64 a3_1] 35 (0, 0)) (by (with_reducible repeat (first | refine blk_drewN ?_ _ | refine blk_drew ?_ | refine blk_alloc ?_ _)); exact BK261.out) hb)
    have n4_ := Aside0.mk (below_step (by repeat (first | (with_reducible first | exact HB.out | apply below_alloc | apply pw_below_drewN | apply below_drew1 | refine below_set ?_ GE260.out | refine below_set ?_ GE261.out) | exact HB.out)) hb)
    clear HO264
    clear BK260
    clear BK261
    clear HB
    have HO264 := n0_
    have HO268 := n1_
    have BK260 := n2_
    have BK261 := n3_
    have HB := n4_
    clear n0_ n1_ n2_ n3_ n4_
    (try clear hb)
    (try clear hb2)
    (try clear hk)
    (try clear hi)
    (try clear ho0)
    obtain ⟨Ao24, co24, eo24⟩ := Kd.R_slice HO268.out
    (first | subst eo24 | (injection eo24 with f1_ f2_ f3_; have f4_ := f1_.symm; have f5_ := f3_.symm; clear f1_ f2_ f3_; subst f4_; subst f5_))
    refine hK.out _ _ ⟨(blk_cell BK260.out 0).trans rfl, (blk_cell BK260.out 1).trans rfl, (blk_cell BK261.out 0).trans rfl, (blk_cell BK261.out 1).trans rfl⟩ (fun hHeld => ?_)
    clear hK K
    refine norm_ (a' := ?_) ?_ ?_
    rotate_left
    · show Act.put _ (some 24) _ = _
      simp only [Act.put, List.setIfInBounds_toArray, List.set_cons_zero, List.set_cons_succ, i64_w, i32_w]
      rfl
    refine one_ (i := 6) (N := some 27) #[true, true, true, true, true, true, true, true, true, true, false, true, true, false, false, false] rfl rfl (one_of HT_.out (by kernel_rfl)) (by decide) (fun K hK => ?_)
    refine goes_ Try.func79 (by kernel_rfl) rfl #[.slice Ao24 t266.length co24, .int .i64 a2_1] (by rfl) rfl rfl (by (try simp only [List.map_toArray, List.map_cons, List.map_nil]); first | done | rfl | (simp only [List.length_drop, List.length_take]; rfl)) ?_
    with_reducible refine (verditerref06_times.calls k _ _ t266 a2_1 t269 _ ?side1 ?side2 A8.out).mono ?_
    (case side1 => repeat (first | exact (Kd.R_reads' HO268.out).2.2 | (with_reducible refine Kd.C_alloc ?_ _) | (with_reducible refine Kd.C_drewN ?_ _) | (with_reducible refine Kd.C_drew ?_)))
    (case side2 => exact (Kd.R_reads' HO268.out).2.1)
    rintro e w25 ⟨v270, rfl, ho0, hb⟩
    refine ⟨_, rfl, ?_⟩
    have n0_ := Aside0.mk (Kd.R_below (by (with_reducible repeat (first | apply Kd.R_alloc | apply Kd.R_drewN | apply Kd.R_drew)); exact HO264.out) hb)
    have n1_ := Aside0.mk (Kd.R_elder' (by (with_reducible repeat (first | apply Kd.R_alloc | apply Kd.R_drewN | apply Kd.R_drew)); exact HO268.out) (Kd.R_base ho0) hb)
    have n2_ := Aside0.mk (Kd.R_lower (Kd.R_new' ho0 (Kd.R_lt (by (with_reducible repeat (first | apply Kd.R_alloc | apply Kd.R_drewN | apply Kd.R_drew)); exact HO268.out))) (below_size (by repeat (first | (with_reducible first | exact HB.out | apply below_alloc | apply pw_below_drewN | apply below_drew1 | refine below_set ?_ GE260.out | refine below_set ?_ GE261.out) | exact HB.out))))
    have n3_ := Aside0.mk (blk_below (g := gb260) (o := .cells #[.int .i64 a2_0, .int .i64 a2_1] 35 (0, 0)) (by (with_reducible repeat (first | refine blk_drewN ?_ _ | refine blk_drew ?_ | refine blk_alloc ?_ _)); exact BK260.out) hb)
    have n4_ := Aside0.mk (blk_below (g := gb261) (o := .cells #[.int .i64 a3_0, .int .i64 a3_1] 35 (0, 0)) (by (with_reducible repeat (first | refine blk_drewN ?_ _ | refine blk_drew ?_ | refine blk_alloc ?_ _)); exact BK261.out) hb)
    have n5_ := Aside0.mk (below_step (by repeat (first | (with_reducible first | exact HB.out | apply below_alloc | apply pw_below_drewN | apply below_drew1 | refine below_set ?_ GE260.out | refine below_set ?_ GE261.out) | exact HB.out)) hb)
    clear HO264
    clear HO268
    clear BK260
    clear BK261
    clear HB
    have HO264 := n0_
    have HO268 := n1_
    have HO271 := n2_
    have BK260 := n3_
    have BK261 := n4_
    have HB := n5_
    clear n0_ n1_ n2_ n3_ n4_ n5_
    (try clear hb)
    (try clear hb2)
    (try clear hk)
    (try clear hi)
    (try clear ho0)
    refine hK.out _ _ ⟨(blk_cell BK260.out 0).trans rfl, (blk_cell BK260.out 1).trans rfl, (blk_cell BK261.out 0).trans rfl, (blk_cell BK261.out 1).trans rfl⟩ (fun hHeld => ?_)
    clear hK K
    refine norm_ (a' := ?_) ?_ ?_
    rotate_left
    · show Act.put _ (some 27) _ = _
      simp only [Act.put, List.setIfInBounds_toArray, List.set_cons_zero, List.set_cons_succ, i64_w, i32_w]
      rfl
    refine one_ (i := 10) (N := some 31) #[true, true, true, true, true, true, true, true, true, true, true, true, true, false, false, false] rfl rfl (one_of HT_.out (by kernel_rfl)) (by decide) (fun K hK => ?_)
    refine goes_ Try.func80 (by kernel_rfl) rfl #[.slice A1 l1.length c1, .int .i64 a3_0] (by rfl) rfl rfl (by (try simp only [List.map_toArray, List.map_cons, List.map_nil]); first | done | rfl | (simp only [List.length_drop, List.length_take]; rfl)) ?_
    with_reducible refine (verditerref06_mark.calls k _ _ l1 a3_0 t272 _ ?side1 ?side2 A9.out).mono ?_
    (case side1 => repeat (first | exact (Kd.C_below HR1.out HB.out) | (with_reducible refine Kd.C_alloc ?_ _) | (with_reducible refine Kd.C_drewN ?_ _) | (with_reducible refine Kd.C_drew ?_)))
    (case side2 => exact HC1.out)
    rintro e w26 ⟨v273, rfl, ho0, hb⟩
    refine ⟨_, rfl, ?_⟩
    have n0_ := Aside0.mk (Kd.R_below (by (with_reducible repeat (first | apply Kd.R_alloc | apply Kd.R_drewN | apply Kd.R_drew)); exact HO264.out) hb)
    have n1_ := Aside0.mk (Kd.R_elder' (by (with_reducible repeat (first | apply Kd.R_alloc | apply Kd.R_drewN | apply Kd.R_drew)); exact HO268.out) (Kd.R_base ho0) hb)
    have n2_ := Aside0.mk (Kd.R_elder' (by (with_reducible repeat (first | apply Kd.R_alloc | apply Kd.R_drewN | apply Kd.R_drew)); exact HO271.out) (Kd.R_base ho0) hb)
    have n3_ := Aside0.mk (Kd.R_lower (Kd.R_new' (Kd.R_new' ho0 (Kd.R_lt (by (with_reducible repeat (first | apply Kd.R_alloc | apply Kd.R_drewN | apply Kd.R_drew)); exact HO268.out))) (Kd.R_lt (by (with_reducible repeat (first | apply Kd.R_alloc | apply Kd.R_drewN | apply Kd.R_drew)); exact HO271.out))) (below_size (by repeat (first | (with_reducible first | exact HB.out | apply below_alloc | apply pw_below_drewN | apply below_drew1 | refine below_set ?_ GE260.out | refine below_set ?_ GE261.out) | exact HB.out))))
    have n4_ := Aside0.mk (blk_below (g := gb260) (o := .cells #[.int .i64 a2_0, .int .i64 a2_1] 35 (0, 0)) (by (with_reducible repeat (first | refine blk_drewN ?_ _ | refine blk_drew ?_ | refine blk_alloc ?_ _)); exact BK260.out) hb)
    have n5_ := Aside0.mk (blk_below (g := gb261) (o := .cells #[.int .i64 a3_0, .int .i64 a3_1] 35 (0, 0)) (by (with_reducible repeat (first | refine blk_drewN ?_ _ | refine blk_drew ?_ | refine blk_alloc ?_ _)); exact BK261.out) hb)
    have n6_ := Aside0.mk (below_step (by repeat (first | (with_reducible first | exact HB.out | apply below_alloc | apply pw_below_drewN | apply below_drew1 | refine below_set ?_ GE260.out | refine below_set ?_ GE261.out) | exact HB.out)) hb)
    clear HO264
    clear HO268
    clear HO271
    clear BK260
    clear BK261
    clear HB
    have HO264 := n0_
    have HO268 := n1_
    have HO271 := n2_
    have HO274 := n3_
    have BK260 := n4_
    have BK261 := n5_
    have HB := n6_
    clear n0_ n1_ n2_ n3_ n4_ n5_ n6_
    (try clear hb)
    (try clear hb2)
    (try clear hk)
    (try clear hi)
    (try clear ho0)
    obtain ⟨Ao27, co27, eo27⟩ := Kd.R_slice HO274.out
    (first | subst eo27 | (injection eo27 with f1_ f2_ f3_; have f4_ := f1_.symm; have f5_ := f3_.symm; clear f1_ f2_ f3_; subst f4_; subst f5_))
    refine hK.out _ _ ⟨(blk_cell BK260.out 0).trans rfl, (blk_cell BK260.out 1).trans rfl, (blk_cell BK261.out 0).trans rfl, (blk_cell BK261.out 1).trans rfl⟩ (fun hHeld => ?_)
    clear hK K
    refine norm_ (a' := ?_) ?_ ?_
    rotate_left
    · show Act.put _ (some 31) _ = _
      simp only [Act.put, List.setIfInBounds_toArray, List.set_cons_zero, List.set_cons_succ, i64_w, i32_w]
      rfl
    refine one_ (i := 13) (N := some 34) #[true, true, true, true, true, true, true, true, true, true, true, true, true, true, false, false] rfl rfl (one_of HT_.out (by kernel_rfl)) (by decide) (fun K hK => ?_)
    refine goes_ Try.func79 (by kernel_rfl) rfl #[.slice Ao27 t272.length co27, .int .i64 a3_1] (by rfl) rfl rfl (by (try simp only [List.map_toArray, List.map_cons, List.map_nil]); first | done | rfl | (simp only [List.length_drop, List.length_take]; rfl)) ?_
    with_reducible refine (verditerref06_times.calls k _ _ t272 a3_1 t275 _ ?side1 ?side2 A10.out).mono ?_
    (case side1 => repeat (first | exact (Kd.R_reads' HO274.out).2.2 | (with_reducible refine Kd.C_alloc ?_ _) | (with_reducible refine Kd.C_drewN ?_ _) | (with_reducible refine Kd.C_drew ?_)))
    (case side2 => exact (Kd.R_reads' HO274.out).2.1)
    rintro e w28 ⟨v276, rfl, ho0, hb⟩
    refine ⟨_, rfl, ?_⟩
    have n0_ := Aside0.mk (Kd.R_below (by (with_reducible repeat (first | apply Kd.R_alloc | apply Kd.R_drewN | apply Kd.R_drew)); exact HO264.out) hb)
    have n1_ := Aside0.mk (Kd.R_elder' (by (with_reducible repeat (first | apply Kd.R_alloc | apply Kd.R_drewN | apply Kd.R_drew)); exact HO268.out) (Kd.R_base ho0) hb)
    have n2_ := Aside0.mk (Kd.R_elder' (by (with_reducible repeat (first | apply Kd.R_alloc | apply Kd.R_drewN | apply Kd.R_drew)); exact HO271.out) (Kd.R_base ho0) hb)
    have n3_ := Aside0.mk (Kd.R_elder' (by (with_reducible repeat (first | apply Kd.R_alloc | apply Kd.R_drewN | apply Kd.R_drew)); exact HO274.out) (Kd.R_base ho0) hb)
    have n4_ := Aside0.mk (Kd.R_lower (Kd.R_new' (Kd.R_new' (Kd.R_new' ho0 (Kd.R_lt (by (with_reducible repeat (first | apply Kd.R_alloc | apply Kd.R_drewN | apply Kd.R_drew)); exact HO268.out))) (Kd.R_lt (by (with_reducible repeat (first | apply Kd.R_alloc | apply Kd.R_drewN | apply Kd.R_drew)); exact HO271.out))) (Kd.R_lt (by (with_reducible repeat (first | apply Kd.R_alloc | apply Kd.R_drewN | apply Kd.R_drew)); exact HO274.out))) (below_size (by repeat (first | (with_reducible first | exact HB.out | apply below_alloc | apply pw_below_drewN | apply below_drew1 | refine below_set ?_ GE260.out | refine below_set ?_ GE261.out) | exact HB.out))))
    have n5_ := Aside0.mk (blk_below (g := gb260) (o := .cells #[.int .i64 a2_0, .int .i64 a2_1] 35 (0, 0)) (by (with_reducible repeat (first | refine blk_drewN ?_ _ | refine blk_drew ?_ | refine blk_alloc ?_ _)); exact BK260.out) hb)
    have n6_ := Aside0.mk (blk_below (g := gb261) (o := .cells #[.int .i64 a3_0, .int .i64 a3_1] 35 (0, 0)) (by (with_reducible repeat (first | refine blk_drewN ?_ _ | refine blk_drew ?_ | refine blk_alloc ?_ _)); exact BK261.out) hb)
    have n7_ := Aside0.mk (below_step (by repeat (first | (with_reducible first | exact HB.out | apply below_alloc | apply pw_below_drewN | apply below_drew1 | refine below_set ?_ GE260.out | refine below_set ?_ GE261.out) | exact HB.out)) hb)
    clear HO264
    clear HO268
    clear HO271
    clear HO274
    clear BK260
    clear BK261
    clear HB
    have HO264 := n0_
    have HO268 := n1_
    have HO271 := n2_
    have HO274 := n3_
    have HO277 := n4_
    have BK260 := n5_
    have BK261 := n6_
    have HB := n7_
    clear n0_ n1_ n2_ n3_ n4_ n5_ n6_ n7_
    (try clear hb)
    (try clear hb2)
    (try clear hk)
    (try clear hi)
    (try clear ho0)
    refine hK.out _ _ ⟨(blk_cell BK260.out 0).trans rfl, (blk_cell BK260.out 1).trans rfl, (blk_cell BK261.out 0).trans rfl, (blk_cell BK261.out 1).trans rfl⟩ (fun hHeld => ?_)
    clear hK K
    refine norm_ (a' := ?_) ?_ ?_
    rotate_left
    · show Act.put _ (some 34) _ = _
      simp only [Act.put, List.setIfInBounds_toArray, List.set_cons_zero, List.set_cons_succ, i64_w, i32_w]
      rfl
    refine pure_ (i := 14) (N := some 10) (v := ?_) (a' := ?_) #[true, true, true, true, true, true, true, true, true, true, true, true, true, true, true, false] rfl rfl (any_of HT_.out (by kernel_rfl)) (fun _ _ _ h => h) (Or.inl ⟨by rfl, ?_⟩) ?_ ?_
    rotate_left
    · intro w'
      go_simp
      with_reducible rfl
    rotate_left
    · simp only [Act.put, List.setIfInBounds_toArray, List.set_cons_zero, List.set_cons_succ, i64_w, i32_w]
      rfl
    refine pure_ (i := 15) (N := some 11) (v := ?_) (a' := ?_) #[true, true, true, true, true, true, true, true, true, true, true, true, true, true, true, true] rfl rfl (any_of HT_.out (by kernel_rfl)) (fun _ _ _ h => h) (Or.inl ⟨by rfl, ?_⟩) ?_ ?_
    rotate_left
    · intro w'
      go_simp
      with_reducible rfl
    rotate_left
    · simp only [Act.put, List.setIfInBounds_toArray, List.set_cons_zero, List.set_cons_succ, i64_w, i32_w]
      rfl
    refine done_ (done_of HT_.out (by kernel_rfl)) ?_
    have hcz29_0 : w28.cell? ⟨gb260, 0, none⟩ = some (.int .i64 a2_0) := (blk_cell BK260.out 0).trans rfl
    have hcz29_1 : w28.cell? ⟨gb260, 1, none⟩ = some (.int .i64 a2_1) := (blk_cell BK260.out 1).trans rfl
    have hfz29_0 := blk_frozen BK260.out 0
    have hfz29_1 := blk_frozen BK260.out 1
    have hcz30_0 : w28.cell? ⟨gb261, 0, none⟩ = some (.int .i64 a3_0) := (blk_cell BK261.out 0).trans rfl
    have hcz30_1 : w28.cell? ⟨gb261, 1, none⟩ = some (.int .i64 a3_1) := (blk_cell BK261.out 1).trans rfl
    have hfz30_0 := blk_frozen BK261.out 0
    have hfz30_1 := blk_frozen BK261.out 1
    obtain ⟨Ao31, co31, eo31⟩ := Kd.R_slice HO271.out
    subst eo31
    by_cases c11 : (!(a2_0 == a3_0) || (!(a2_1 == a3_1))) = true
    · rw [if_pos c11] at H
      have c11b0 : (!(a2_0 == a3_0) || (!(a2_1 == a3_1))) = true := c11
      clear c11
      replace H := Option.bind_eq_some_iff.mp H
      obtain ⟨t278, A120, H⟩ := H
      replace H : (if t278 = true then (some 0) else (if (a2_0 == a3_0 && (a2_1 == a3_1)) = true then ((verditerref06_isBlank.f k t269).bind fun t279 => (if t279 = true then (some 0) else (some 7))) else (some 7))) = some r := H
      have A12 := Aside0.mk A120
      clear A120
      by_cases c13 : t278 = true
      · subst c13
        have H1 : (some 0) = some r := by rw [if_pos rfl] at H; exact H
        clear H
        have H := H1
        clear H1
        obtain rfl := Option.some.inj H
        obtain ⟨Ao32, co32, eo32⟩ := Kd.R_slice HO277.out
        subst eo32
        try go_wp2_with (first | (go_at_call 60; (with_reducible refine (verditerref06_SameInts.calls k _ _ t269 _ _ t275 true _ ?side1 ?side2 ?side3 ?side4 A12.out).mono ?_); (case side1 => repeat (first | exact (Kd.R_reads' HO271.out).2.2 | (with_reducible refine Kd.C_alloc ?_ _) | (with_reducible refine Kd.C_drewN ?_ _) | (with_reducible refine Kd.C_drew ?_))); (case side2 => exact (Kd.R_reads' HO271.out).2.1); (case side3 => repeat (first | exact (Kd.R_reads' HO277.out).2.2 | (with_reducible refine Kd.C_alloc ?_ _) | (with_reducible refine Kd.C_drewN ?_ _) | (with_reducible refine Kd.C_drew ?_))); (case side4 => exact (Kd.R_reads' HO277.out).2.1); rintro e w' ⟨rfl, ⟨nd, rfl⟩⟩))
        go_ret
        exact ⟨by first | rfl | (simp [errW_none, errW_some] <;> rfl) | (simp [*, errW_none, errW_some] <;> rfl), by repeat (first | (with_reducible first | exact HB.out | apply below_alloc | apply pw_below_drewN | apply below_drew1 | refine below_set ?_ GE260.out | refine below_set ?_ GE261.out) | exact HB.out)⟩
      · replace c13 := Bool.eq_false_iff.mpr c13
        subst c13
        have H1 : (if (a2_0 == a3_0 && (a2_1 == a3_1)) = true then ((verditerref06_isBlank.f k t269).bind fun t279 => (if t279 = true then (some 0) else (some 7))) else (some 7)) = some r := by rw [if_neg (show ¬ (false = true) by decide)] at H; exact H
        clear H
        have H := H1
        clear H1
        by_cases c33 : (a2_0 == a3_0 && (a2_1 == a3_1)) = true
        · rw [if_pos c33] at H
          have c33b0 : (a2_0 == a3_0 && (a2_1 == a3_1)) = true := c33
          (try (have c33b1 : decide (a2_0 = a3_0 && (a2_1 == a3_1)) = true := by simpa using c33))
          (try (have c33b2 : (a2_0 == a3_0 && (a2_1 == a3_1)) = true := by simpa using c33))
          clear c33
          replace H := Option.bind_eq_some_iff.mp H
          obtain ⟨t279, A340, H⟩ := H
          replace H : (if t279 = true then (some 0) else (some 7)) = some r := H
          have A34 := Aside0.mk A340
          clear A340
          by_cases c35 : t279 = true
          · subst c35
            have H1 : (some 0) = some r := by rw [if_pos rfl] at H; exact H
            clear H
            have H := H1
            clear H1
            obtain rfl := Option.some.inj H
            obtain ⟨Ao54, co54, eo54⟩ := Kd.R_slice HO277.out
            subst eo54
            try go_wp2_with (first | (go_at_call 60; (with_reducible refine (verditerref06_SameInts.calls k _ _ t269 _ _ t275 false _ ?side1 ?side2 ?side3 ?side4 A12.out).mono ?_); (case side1 => repeat (first | exact (Kd.R_reads' HO271.out).2.2 | (with_reducible refine Kd.C_alloc ?_ _) | (with_reducible refine Kd.C_drewN ?_ _) | (with_reducible refine Kd.C_drew ?_))); (case side2 => exact (Kd.R_reads' HO271.out).2.1); (case side3 => repeat (first | exact (Kd.R_reads' HO277.out).2.2 | (with_reducible refine Kd.C_alloc ?_ _) | (with_reducible refine Kd.C_drewN ?_ _) | (with_reducible refine Kd.C_drew ?_))); (case side4 => exact (Kd.R_reads' HO277.out).2.1); rintro e w' ⟨rfl, ⟨nd, rfl⟩⟩) | (go_at_call 81; (with_reducible refine (verditerref06_isBlank.calls k _ _ t269 true _ ?side1 ?side2 A34.out).mono ?_); (case side1 => repeat (first | exact (Kd.R_reads' HO271.out).2.2 | (with_reducible refine Kd.C_alloc ?_ _) | (with_reducible refine Kd.C_drewN ?_ _) | (with_reducible refine Kd.C_drew ?_))); (case side2 => exact (Kd.R_reads' HO271.out).2.1); rintro e w' ⟨rfl, ⟨nd, rfl⟩⟩))
            go_ret
            exact ⟨by first | rfl | (simp [errW_none, errW_some] <;> rfl) | (simp [*, errW_none, errW_some] <;> rfl), by repeat (first | (with_reducible first | exact HB.out | apply below_alloc | apply pw_below_drewN | apply below_drew1 | refine below_set ?_ GE260.out | refine below_set ?_ GE261.out) | exact HB.out)⟩
          · replace c35 := Bool.eq_false_iff.mpr c35
            subst c35
            have H1 : (some 7) = some r := by rw [if_neg (show ¬ (false = true) by decide)] at H; exact H
            clear H
            have H := H1
            clear H1
            obtain rfl := Option.some.inj H
            obtain ⟨Ao73, co73, eo73⟩ := Kd.R_slice HO277.out
            subst eo73
            try go_wp2_with (first | (go_at_call 60; (with_reducible refine (verditerref06_SameInts.calls k _ _ t269 _ _ t275 false _ ?side1 ?side2 ?side3 ?side4 A12.out).mono ?_); (case side1 => repeat (first | exact (Kd.R_reads' HO271.out).2.2 | (with_reducible refine Kd.C_alloc ?_ _) | (with_reducible refine Kd.C_drewN ?_ _) | (with_reducible refine Kd.C_drew ?_))); (case side2 => exact (Kd.R_reads' HO271.out).2.1); (case side3 => repeat (first | exact (Kd.R_reads' HO277.out).2.2 | (with_reducible refine Kd.C_alloc ?_ _) | (with_reducible refine Kd.C_drewN ?_ _) | (with_reducible refine Kd.C_drew ?_))); (case side4 => exact (Kd.R_reads' HO277.out).2.1); rintro e w' ⟨rfl, ⟨nd, rfl⟩⟩) | (go_at_call 81; (with_reducible refine (verditerref06_isBlank.calls k _ _ t269 false _ ?side1 ?side2 A34.out).mono ?_); (case side1 => repeat (first | exact (Kd.R_reads' HO271.out).2.2 | (with_reducible refine Kd.C_alloc ?_ _) | (with_reducible refine Kd.C_drewN ?_ _) | (with_reducible refine Kd.C_drew ?_))); (case side2 => exact (Kd.R_reads' HO271.out).2.1); rintro e w' ⟨rfl, ⟨nd, rfl⟩⟩))
            go_ret
            exact ⟨by first | rfl | (simp [errW_none, errW_some] <;> rfl) | (simp [*, errW_none, errW_some] <;> rfl), by repeat (first | (with_reducible first | exact HB.out | apply below_alloc | apply pw_below_drewN | apply below_drew1 | refine below_set ?_ GE260.out | refine below_set ?_ GE261.out) | exact HB.out)⟩
        · rw [if_neg c33] at H
          have c33b0 : (a2_0 == a3_0 && (a2_1 == a3_1)) = false := by simpa using c33
          (try (have c33b1 : decide (a2_0 = a3_0 && (a2_1 == a3_1)) = false := by simpa using c33))
          (try (have c33b2 : (a2_0 == a3_0 && (a2_1 == a3_1)) = false := by simpa using c33))
          (try (have c33b3 : ¬ (a2_0 = a3_0 && (a2_1 == a3_1)) := by simpa using c33))
          clear c33
          obtain rfl := Option.some.inj H
          obtain ⟨Ao92, co92, eo92⟩ := Kd.R_slice HO277.out
          subst eo92
          try go_wp2_with (first | (go_at_call 60; (with_reducible refine (verditerref06_SameInts.calls k _ _ t269 _ _ t275 false _ ?side1 ?side2 ?side3 ?side4 A12.out).mono ?_); (case side1 => repeat (first | exact (Kd.R_reads' HO271.out).2.2 | (with_reducible refine Kd.C_alloc ?_ _) | (with_reducible refine Kd.C_drewN ?_ _) | (with_reducible refine Kd.C_drew ?_))); (case side2 => exact (Kd.R_reads' HO271.out).2.1); (case side3 => repeat (first | exact (Kd.R_reads' HO277.out).2.2 | (with_reducible refine Kd.C_alloc ?_ _) | (with_reducible refine Kd.C_drewN ?_ _) | (with_reducible refine Kd.C_drew ?_))); (case side4 => exact (Kd.R_reads' HO277.out).2.1); rintro e w' ⟨rfl, ⟨nd, rfl⟩⟩))
          go_ret
          exact ⟨by first | rfl | (simp [errW_none, errW_some] <;> rfl) | (simp [*, errW_none, errW_some] <;> rfl), by repeat (first | (with_reducible first | exact HB.out | apply below_alloc | apply pw_below_drewN | apply below_drew1 | refine below_set ?_ GE260.out | refine below_set ?_ GE261.out) | exact HB.out)⟩
    · rw [if_neg c11] at H
      have c11b0 : (!(a2_0 == a3_0) || (!(a2_1 == a3_1))) = false := by simpa using c11
      clear c11
      by_cases c93 : (a2_0 == a3_0 && (a2_1 == a3_1)) = true
      · rw [if_pos c93] at H
        have c93b0 : (a2_0 == a3_0 && (a2_1 == a3_1)) = true := c93
        (try (have c93b1 : decide (a2_0 = a3_0 && (a2_1 == a3_1)) = true := by simpa using c93))
        (try (have c93b2 : (a2_0 == a3_0 && (a2_1 == a3_1)) = true := by simpa using c93))
        clear c93
        replace H := Option.bind_eq_some_iff.mp H
        obtain ⟨t280, A940, H⟩ := H
        replace H : (if t280 = true then (some 0) else (some 7)) = some r := H
        have A94 := Aside0.mk A940
        clear A940
        by_cases c95 : t280 = true
        · subst c95
          have H1 : (some 0) = some r := by rw [if_pos rfl] at H; exact H
          clear H
          have H := H1
          clear H1
          obtain rfl := Option.some.inj H
          try go_wp2_with (first | (go_at_call 81; (with_reducible refine (verditerref06_isBlank.calls k _ _ t269 true _ ?side1 ?side2 A94.out).mono ?_); (case side1 => repeat (first | exact (Kd.R_reads' HO271.out).2.2 | (with_reducible refine Kd.C_alloc ?_ _) | (with_reducible refine Kd.C_drewN ?_ _) | (with_reducible refine Kd.C_drew ?_))); (case side2 => exact (Kd.R_reads' HO271.out).2.1); rintro e w' ⟨rfl, ⟨nd, rfl⟩⟩))
          go_ret
          exact ⟨by first | rfl | (simp [errW_none, errW_some] <;> rfl) | (simp [*, errW_none, errW_some] <;> rfl), by repeat (first | (with_reducible first | exact HB.out | apply below_alloc | apply pw_below_drewN | apply below_drew1 | refine below_set ?_ GE260.out | refine below_set ?_ GE261.out) | exact HB.out)⟩
        · replace c95 := Bool.eq_false_iff.mpr c95
          subst c95
          have H1 : (some 7) = some r := by rw [if_neg (show ¬ (false = true) by decide)] at H; exact H
          clear H
          have H := H1
          clear H1
          obtain rfl := Option.some.inj H
          try go_wp2_with (first | (go_at_call 81; (with_reducible refine (verditerref06_isBlank.calls k _ _ t269 false _ ?side1 ?side2 A94.out).mono ?_); (case side1 => repeat (first | exact (Kd.R_reads' HO271.out).2.2 | (with_reducible refine Kd.C_alloc ?_ _) | (with_reducible refine Kd.C_drewN ?_ _) | (with_reducible refine Kd.C_drew ?_))); (case side2 => exact (Kd.R_reads' HO271.out).2.1); rintro e w' ⟨rfl, ⟨nd, rfl⟩⟩))
          go_ret
          exact ⟨by first | rfl | (simp [errW_none, errW_some] <;> rfl) | (simp [*, errW_none, errW_some] <;> rfl), by repeat (first | (with_reducible first | exact HB.out | apply below_alloc | apply pw_below_drewN | apply below_drew1 | refine below_set ?_ GE260.out | refine below_set ?_ GE261.out) | exact HB.out)⟩
      · exfalso
        revert c11b0 c93
        cases (a2_0 == a3_0) <;> cases (a2_1 == a3_1) <;> simp
  · rw [if_neg c6] at H
    have c6b0 : (t265 == 0) = false := beq_eq_false_iff_ne.mpr c6
    have c6b1 : (t265 != 0) = true := bne_iff_ne.mpr c6
    obtain rfl := Option.some.inj H
    go_enter Try.func46, Try.ntmps46
    go_wp2_with (first | ((with_reducible refine gate_dst (N := 6) rfl ?_); refine box_event ?hg (N := 6) ?hd (cs := #[.int .i64 a2_0, .int .i64 a2_1]) (t := 35) ?hr ?_; (case hd => rfl); (case hg => rfl); (case hr => first | (go_simp; done) | (go_simp; rfl)); intro gb260 hg w149 hbox hb; have n0_ := Aside0.mk (below_step (by repeat (first | (with_reducible first | exact HB.out | apply below_alloc | apply pw_below_drewN | apply below_drew1) | exact HB.out)) hb); have n1_ := Aside0.mk (hbox); have n2_ := Aside0.mk ((by rw [hg]; exact (below_size (by repeat (first | (with_reducible first | exact HB.out | apply below_alloc | apply pw_below_drewN | apply below_drew1) | exact HB.out))) : w.heap.size ≤ gb260)); have n3_ := Aside0.mk ((by rw [hg]; exact (below_size (by repeat (first | (with_reducible first | exact HB.out | apply below_alloc | apply pw_below_drewN | apply below_drew1) | exact HB.out))) : w.heap.size ≤ gb260)); clear HB; have HB := n0_; have BK260 := n1_; have GW260 := n2_; have GE260 := n3_; clear n0_ n1_ n2_ n3_; clear hb hbox hg) | ((with_reducible refine gate_dst (N := 7) rfl ?_); refine box_event ?hg (N := 7) ?hd (cs := #[.int .i64 a3_0, .int .i64 a3_1]) (t := 35) ?hr ?_; (case hd => rfl); (case hg => rfl); (case hr => first | (go_simp; done) | (go_simp; rfl)); intro gb261 hg w150 hbox hb; have n0_ := Aside0.mk (blk_below (g := gb260) (o := .cells #[.int .i64 a2_0, .int .i64 a2_1] 35 (0, 0)) (by (with_reducible repeat (first | refine blk_drewN ?_ _ | refine blk_drew ?_ | refine blk_alloc ?_ _)); exact BK260.out) hb); have n1_ := Aside0.mk (below_step (by repeat (first | (with_reducible first | exact HB.out | apply below_alloc | apply pw_below_drewN | apply below_drew1 | refine below_set ?_ GE260.out) | exact HB.out)) hb); have n2_ := Aside0.mk (hbox); have n3_ := Aside0.mk ((by rw [hg]; exact (below_size (by repeat (first | (with_reducible first | exact HB.out | apply below_alloc | apply pw_below_drewN | apply below_drew1 | refine below_set ?_ GE260.out) | exact HB.out))) : w.heap.size ≤ gb261)); have n4_ := Aside0.mk ((by rw [hg]; exact (below_size (by repeat (first | (with_reducible first | exact HB.out | apply below_alloc | apply pw_below_drewN | apply below_drew1 | refine below_set ?_ GE260.out) | exact HB.out))) : w.heap.size ≤ gb261)); have n5_ := Aside0.mk ((by rw [hg]; exact Nat.ne_of_lt (blk_lt (g := gb260) (o := .cells #[.int .i64 a2_0, .int .i64 a2_1] 35 (0, 0)) (by (with_reducible repeat (first | refine blk_drewN ?_ _ | refine blk_drew ?_ | refine blk_alloc ?_ _)); exact BK260.out)) : gb260 ≠ gb261)); have n6_ := Aside0.mk ((by rw [hg]; exact Nat.ne_of_gt (blk_lt (g := gb260) (o := .cells #[.int .i64 a2_0, .int .i64 a2_1] 35 (0, 0)) (by (with_reducible repeat (first | refine blk_drewN ?_ _ | refine blk_drew ?_ | refine blk_alloc ?_ _)); exact BK260.out)) : gb261 ≠ gb260)); clear BK260; clear HB; have BK260 := n0_; have HB := n1_; have BK261 := n2_; have GW261 := n3_; have GE261 := n4_; have NB260_261 := n5_; have NB261_260 := n6_; clear n0_ n1_ n2_ n3_ n4_ n5_ n6_; clear hb hbox hg; have hnb151 := NB260_261.out; have hnc151 := NB261_260.out; have hcz152_0 : w150.cell? ⟨gb260, 0, none⟩ = some (.int .i64 a2_0) := (blk_cell BK260.out 0).trans rfl; have hcz152_1 : w150.cell? ⟨gb260, 1, none⟩ = some (.int .i64 a2_1) := (blk_cell BK260.out 1).trans rfl; have hfz152_0 := blk_frozen BK260.out 0; have hfz152_1 := blk_frozen BK260.out 1; have hcz153_0 : w150.cell? ⟨gb261, 0, none⟩ = some (.int .i64 a3_0) := (blk_cell BK261.out 0).trans rfl; have hcz153_1 : w150.cell? ⟨gb261, 1, none⟩ = some (.int .i64 a3_1) := (blk_cell BK261.out 1).trans rfl; have hfz153_0 := blk_frozen BK261.out 0; have hfz153_1 := blk_frozen BK261.out 1) | ((with_reducible refine gate_dst (N := 16) rfl ?_); refine Kd.R_lit k35 _ 35 ?hg (N := 16) ?hd (xs := ([(⟨a2_0, a2_1⟩ : S35), (⟨a3_0, a3_1⟩ : S35)] : List (S35))) (inner := [.int .i64 a2_0, .int .i64 a2_1, .int .i64 a3_0, .int .i64 a3_1]) (ok := fun _ => True) (okp := fun _ => True) ?hr ?hp (fun _ hk => hk) trivial (Below.refl _ _) (Nat.le_refl _) (by simp) ?_; (case hd => rfl); (case hg => rfl); (case hr => first | (go_simp; done) | (go_simp; rfl)); (case hp => exact (Reps.c2 (show Kd.M k35 _ _ _ (⟨a2_0, a2_1⟩ : S35) [.int .i64 a2_0, .int .i64 a2_1] from (k35_mkM _ _ _ (⟨a2_0, a2_1⟩ : S35) )) (Reps.c2 (show Kd.M k35 _ _ _ (⟨a3_0, a3_1⟩ : S35) [.int .i64 a3_0, .int .i64 a3_1] from (k35_mkM _ _ _ (⟨a3_0, a3_1⟩ : S35) )) (Reps.none _ _)))); intro v263 w154 ho155 hb hg_ hnew_; clear hg_ hnew_; (first | rw [← Ny262.out] at ho155 | (simp only [Int.reduceToNat] at ho155; rw [← Ny262.out] at ho155)); have n0_ := Aside0.mk (Kd.R_lower (Kd.R_newB (Kd.R_newB ho155 (g := gb260) (o := .cells #[.int .i64 a2_0, .int .i64 a2_1] 35 (0, 0)) (by (with_reducible repeat (first | refine blk_drewN ?_ _ | refine blk_drew ?_ | refine blk_alloc ?_ _)); exact BK260.out)) (g := gb261) (o := .cells #[.int .i64 a3_0, .int .i64 a3_1] 35 (0, 0)) (by (with_reducible repeat (first | refine blk_drewN ?_ _ | refine blk_drew ?_ | refine blk_alloc ?_ _)); exact BK261.out)) (below_size (by repeat (first | (with_reducible first | exact HB.out | apply below_alloc | apply pw_below_drewN | apply below_drew1 | refine below_set ?_ GE260.out | refine below_set ?_ GE261.out) | exact HB.out)))); have n1_ := Aside0.mk (blk_below (g := gb260) (o := .cells #[.int .i64 a2_0, .int .i64 a2_1] 35 (0, 0)) (by (with_reducible repeat (first | refine blk_drewN ?_ _ | refine blk_drew ?_ | refine blk_alloc ?_ _)); exact BK260.out) hb); have n2_ := Aside0.mk (blk_below (g := gb261) (o := .cells #[.int .i64 a3_0, .int .i64 a3_1] 35 (0, 0)) (by (with_reducible repeat (first | refine blk_drewN ?_ _ | refine blk_drew ?_ | refine blk_alloc ?_ _)); exact BK261.out) hb); have n3_ := Aside0.mk (below_step (by repeat (first | (with_reducible first | exact HB.out | apply below_alloc | apply pw_below_drewN | apply below_drew1 | refine below_set ?_ GE260.out | refine below_set ?_ GE261.out) | exact HB.out)) hb); clear BK260; clear BK261; clear HB; have HO264 := n0_; have BK260 := n1_; have BK261 := n2_; have HB := n3_; clear n0_ n1_ n2_ n3_; clear hb ho155; obtain ⟨Ao156, co156, eo156⟩ := Kd.R_slice HO264.out; subst eo156) | ((with_reducible refine gate_callee (f := 78) rfl ?_); refine goesL_ (some 17) rfl rfl Try.func78 (by kernel_rfl) rfl #[.int .i64 a0, .slice A1 l1.length c1, .slice Ao156 y262.length co156] rfl (by (try simp only [List.map_toArray, List.map_cons, List.map_nil]); first | done | rfl | (simp only [List.length_drop, List.length_take]; rfl)) ?_; (with_reducible refine (verditerref06_cased.calls k a0 _ _ l1 _ _ y262 t265 _ ?side1 ?side2 ?side3 ?side4 A5.out).mono ?_); (case side1 => repeat (first | exact (Kd.C_below HR1.out HB.out) | (with_reducible refine Kd.C_alloc ?_ _) | (with_reducible refine Kd.C_drewN ?_ _) | (with_reducible refine Kd.C_drew ?_))); (case side2 => exact HC1.out); (case side3 => repeat (first | exact (Kd.R_reads' HO264.out).2.2 | (with_reducible refine Kd.C_alloc ?_ _) | (with_reducible refine Kd.C_drewN ?_ _) | (with_reducible refine Kd.C_drew ?_))); (case side4 => exact (Kd.R_reads' HO264.out).2.1); rintro e w' ⟨rfl, ⟨nd, rfl⟩⟩; refine ⟨_, rfl, ?_⟩))
    go_ret
    exact ⟨by first | rfl | (simp [errW_none, errW_some] <;> rfl) | (simp [*, errW_none, errW_some] <;> rfl), by repeat (first | (with_reducible first | exact HB.out | apply below_alloc | apply pw_below_drewN | apply below_drew1 | refine below_set ?_ GE260.out | refine below_set ?_ GE261.out) | exact HB.out)⟩

end Go.Proofs.Ytdbeochifofdoaa.X
end

section
/-! The document's cased and CheckBad, and the program's. -/
namespace Go.Proofs.Ytdbeochifofdoaa.X
open Go.RowKit Go.Proofs.YtdbeochifofdoaaW.PrintWords Go.Proofs.YtdbeochifofdoaaW.PrintLast
set_option linter.unusedVariables false
set_option linter.unusedSimpArgs false

theorem rwithin_f (a b c : Int) : verditerref06_within.f a b c = some (decide (b ≤ a) && decide (a ≤ c)) := by
  unfold verditerref06_within.f
  by_cases h : a ≥ b
  · rw [if_pos h]; simp [h]
  · rw [if_neg h]; simp [show ¬ b ≤ a from h]
theorem cased_l1 (cs : List S35) (hl : cs.length < 9223372036854775807) : ∀ (d k i : Nat), i ≤ cs.length → cs.length - i = d → d < k →
    verditerref06_cased.l1 k cs i = some (if (cs.drop i).any (fun x => x.f1 != 1 && x.f1 != -1) = true then 1 else 0)
  | 0, k + 1, i, h1, h2, _ => by
    unfold verditerref06_cased.l1
    rw [if_neg (by omega), List.drop_eq_nil_of_le (by omega)]
    rfl
  | d + 1, k + 1, i, h1, h2, h3 => by
    unfold verditerref06_cased.l1
    have ih := cased_l1 cs hl d k (i + 1) (by omega) (by omega) (by omega)
    rw [if_pos (by omega), if_pos (by omega), show rd_T35 cs (i : Int) = cs.getD i z35 from rfl, dropD z35 cs i (by omega), List.any_cons, wrs i (by omega)]
    generalize cs.getD i z35 = x
    by_cases ha : x.f1 = 1
    · rw [if_pos ha, ih, ha]; rfl
    · rw [if_neg ha]
      by_cases hb : x.f1 = -1
      · rw [if_pos hb, ih, hb]; rfl
      · have e1 : (x.f1 != 1) = true := bne_iff_ne.mpr ha
        have e2 : (x.f1 != -1) = true := bne_iff_ne.mpr hb
        rw [if_neg hb, e1, e2]; rfl
theorem cased_l0 (lots : Int) (hlo : 1 ≤ lots ∧ lots ≤ 13) (cs : List S35) (hl : cs.length < 9223372036854775807) : ∀ (d k i : Nat), i ≤ cs.length → cs.length - i = d → d + cs.length + 1 < k →
    verditerref06_cased.l0 k lots cs i = some (if (cs.drop i).any (fun x => !(decide (0 ≤ x.f0) && decide (x.f0 ≤ lots - 1))) = true then 4 else if cs.any (fun x => x.f1 != 1 && x.f1 != -1) = true then 1 else 0)
  | 0, k + 1, i, h1, h2, h3 => by
    unfold verditerref06_cased.l0
    have h := cased_l1 cs hl cs.length k 0 (by omega) (by omega) (by omega)
    rw [show ((0 : Nat) : Int) = 0 from rfl] at h
    rw [if_neg (by omega), List.drop_eq_nil_of_le (by omega), h]
    rfl
  | d + 1, k + 1, i, h1, h2, h3 => by
    unfold verditerref06_cased.l0
    have ih := cased_l0 lots hlo cs hl d k (i + 1) (by omega) (by omega) (by omega)
    rw [if_pos (by omega), if_pos (by omega), show rd_T35 cs (i : Int) = cs.getD i z35 from rfl, dropD z35 cs i (by omega), List.any_cons, wrs i (by omega), rwithin_f, Option.bind_some, show wrap64 (lots - 1) = lots - 1 from wr_of (by omega) (by omega), ih]
    cases (decide (0 ≤ (cs.getD i z35).f0) && decide ((cs.getD i z35).f0 ≤ lots - 1)) <;> simp
theorem refCased_f (lots : Int) (l : List S53) (hm : l.length < 9223372036854775807) (hs : ∀ y, y ∈ l → y.f0.length ≤ 50 ∧ y.f1.length ≤ 50) (cs : List S35) (hc : cs.length ≤ 10) (k : Nat) (hk : 800 ≤ k) :
    verditerref06_cased.f k lots l cs = some (cErr lots l cs) := by
  unfold verditerref06_cased.f cErr
  rw [refValidate_f lots l hm hs k hk, Option.bind_some]
  by_cases hp : pErr lots l = 0
  · have ok := pErr_ok hp
    have h := cased_l0 lots ⟨ok.lo, ok.hi⟩ cs (by omega) cs.length k 0 (by omega) (by omega) (by omega)
    rw [show ((0 : Nat) : Int) = 0 from rfl] at h
    rw [if_pos hp, if_pos hp, h]
    rfl
  · rw [if_neg hp, if_neg hp]

/-- The answers to a case. -/
def ansB (l : List S53) (n w : Int) : List Int := (refMark l n).map fun y => wrap64 (w * y)
/-- Why two cases do not prove. -/
def chkB (lots : Int) (l : List S53) (c0 c1 d0 d1 : Int) : Int :=
  if cErr lots l [⟨c0, c1⟩, ⟨d0, d1⟩] = 0 then (if (if (c0 == d0 && c1 == d1) = true then (ansB l c0 c1).all (· == 0) else ansB l c0 c1 == ansB l d0 d1) = true then 0 else 7) else cErr lots l [⟨c0, c1⟩, ⟨d0, d1⟩]
theorem cErr_ok {lots : Int} {l : List S53} {cs : List S35} (h : cErr lots l cs = 0) : pErr lots l = 0 ∧ ∀ c, c ∈ cs → 0 ≤ c.f0 ∧ c.f0 < lots ∧ (c.f1 = 1 ∨ c.f1 = -1) := by
  unfold cErr at h
  by_cases hp : pErr lots l = 0
  · rw [if_pos hp] at h
    split at h
    · cases h
    rename_i h1
    split at h
    · cases h
    rename_i h2
    refine ⟨hp, fun c hc => ?_⟩
    simp only [List.any_eq_true, not_exists, not_and] at h1 h2
    have a1 := h1 c hc
    have a2 := h2 c hc
    simp only [Bool.not_eq_true', Bool.not_eq_false, Bool.and_eq_true, decide_eq_true_eq, bne_iff_ne, ne_eq, Bool.not_eq_true] at a1 a2
    refine ⟨by simpa using (by simpa using a1 : _ ∧ _).1, ?_, ?_⟩
    · have := (by simpa using a1 : 0 ≤ c.f0 ∧ c.f0 ≤ lots - 1).2; omega
    · by_cases q : c.f1 = 1
      · exact .inl q
      · right
        simpa [q] using a2
  · rw [if_neg hp] at h; exact absurd h hp
theorem refCheckBad_f (lots : Int) (l : List S53) (hm : l.length < 9223372036854775807) (hs : ∀ y, y ∈ l → y.f0.length ≤ 50 ∧ y.f1.length ≤ 50) (c0 c1 d0 d1 : Int) (k : Nat) (hk : 800 ≤ k) :
    verditerref06_CheckBad.f k lots l c0 c1 d0 d1 = some (chkB lots l c0 c1 d0 d1) := by
  unfold verditerref06_CheckBad.f chkB
  rw [refCased_f lots l hm hs _ (by simp) k hk, Option.bind_some]
  by_cases hp : cErr lots l [⟨c0, c1⟩, ⟨d0, d1⟩] = 0
  · have ok := (pErr_ok (cErr_ok hp).1).few
    have hlen : ∀ x, (refMark l x).length ≤ 3 := fun x => by unfold refMark; rw [List.length_map]; exact ok
    have hlen2 : ∀ x w, (ansB l x w).length ≤ 3 := fun x w => by unfold ansB; rw [List.length_map]; exact hlen x
    have m0 := mark_f l c0 k (by omega) hs (by omega)
    have m1 := mark_f l d0 k (by omega) hs (by omega)
    have t0 : verditerref06_times.f k (refMark l c0) c1 = some (ansB l c0 c1) := times_f _ _ k (by have := hlen c0; omega) (by have := hlen c0; omega)
    have t1 : verditerref06_times.f k (refMark l d0) d1 = some (ansB l d0 d1) := times_f _ _ k (by have := hlen d0; omega) (by have := hlen d0; omega)
    have s0 := same_f (ansB l c0 c1) (ansB l d0 d1) k (by have := hlen2 c0 c1; omega) (by have := hlen2 c0 c1; omega)
    have b0 := isBlank_f (ansB l c0 c1) k (by have := hlen2 c0 c1; omega) (by have := hlen2 c0 c1; omega)
    rw [if_pos hp, if_pos hp, m0, Option.bind_some, t0, Option.bind_some, m1, Option.bind_some, t1, Option.bind_some, s0, Option.bind_some, b0, Option.bind_some]
    generalize (ansB l c0 c1 == ansB l d0 d1) = u
    generalize (ansB l c0 c1).all (· == 0) = v
    cases (c0 == d0) <;> cases (c1 == d1) <;> cases u <;> cases v <;> rfl
  · rw [if_neg hp, if_neg hp]
end Go.Proofs.Ytdbeochifofdoaa.X
end

section
/-! A plan does not tell just if two cases prove it. -/
namespace Go.Proofs.Ytdbeochifofdoaa.X
open Go.RowKit Go.Proofs.YtdbeochifofdoaaW.PrintWords Go.Proofs.YtdbeochifofdoaaW.PrintLast
set_option linter.unusedVariables false
set_option linter.unusedSimpArgs false

theorem blank_iff (l : List S53) (n : Int) : (refMark l n).all (· == 0) = true ↔ ∀ y, y ∈ l → markOf n y = 0 := by
  unfold refMark
  rw [List.all_eq_true]
  constructor
  · intro h y hy
    have := h _ (List.mem_map.2 ⟨y, hy, rfl⟩)
    exact beq_iff_eq.1 this
  · intro h x hx
    obtain ⟨y, hy, rfl⟩ := List.mem_map.1 hx
    exact beq_iff_eq.2 (h y hy)
theorem map_iff {α : Type} (l : List α) (f g : α → Int) : (l.map f == l.map g) = true ↔ ∀ y, y ∈ l → f y = g y := by
  rw [beq_iff_eq]
  exact List.map_inj_left
theorem pair_iff (l : List S53) (i j : Nat) : pairB l i j = true ↔ (∀ y, y ∈ l → markOf i y = markOf j y) ∨ ∀ y, y ∈ l → markOf i y = - markOf j y := by
  unfold pairB
  rw [Bool.or_eq_true]
  unfold refMark
  rw [List.map_map, map_iff, map_iff]
  have : ∀ y, ((fun y => wrap64 (-1 * y)) ∘ markOf (j : Int)) y = - markOf j y := fun y => (wr_small (markOf_small _ _)).2.2
  constructor
  · rintro (h | h)
    · exact .inl h
    · exact .inr fun y hy => (h y hy).trans (this y)
  · rintro (h | h)
    · exact .inl h
    · exact .inr fun y hy => (h y hy).trans (this y).symm
theorem ans_map (l : List S53) (n w : Int) : ansB l n w = l.map fun y => wrap64 (w * markOf n y) := by
  unfold ansB refMark
  rw [List.map_map]
  rfl
/-- A case's answer at a weighing. -/
theorem ans_one {w : Int} (hw : w = 1 ∨ w = -1) (n : Int) (y : S53) : wrap64 (w * markOf n y) = w * markOf n y := by
  have := markOf_small n y
  rcases hw with rfl | rfl
  · exact wr_of (by omega) (by omega)
  · exact wr_of (by omega) (by omega)
theorem ansblank_iff (l : List S53) (n : Int) {w : Int} (hw : w = 1 ∨ w = -1) : (ansB l n w).all (· == 0) = true ↔ ∀ y, y ∈ l → markOf n y = 0 := by
  rw [ans_map, List.all_eq_true]
  constructor
  · intro h y hy
    have := beq_iff_eq.1 (h _ (List.mem_map.2 ⟨y, hy, rfl⟩))
    rw [ans_one hw] at this
    rcases hw with rfl | rfl <;> omega
  · intro h x hx
    obtain ⟨y, hy, rfl⟩ := List.mem_map.1 hx
    rw [ans_one hw, h y hy]
    simp
theorem anseq_iff (l : List S53) (n m : Int) {w v : Int} (hw : w = 1 ∨ w = -1) (hv : v = 1 ∨ v = -1) : (ansB l n w == ansB l m v) = true ↔ ∀ y, y ∈ l → w * markOf n y = v * markOf m y := by
  rw [ans_map, ans_map, map_iff]
  constructor
  · intro h y hy
    have := h y hy
    rwa [ans_one hw, ans_one hv] at this
  · intro h y hy
    rw [ans_one hw, ans_one hv]
    exact h y hy
/-- The plan does not tell: a blank mark, or two that are the same or opposite. -/
theorem telB_not (l : List S53) : ∀ (d i : Nat), telB l d i = false ↔ ∃ x, i ≤ x ∧ x < i + d ∧ ((refMark l x).all (· == 0) = true ∨ ∃ j, j < x ∧ pairB l x j = true)
  | 0, i => by
    constructor
    · intro h; cases h
    · rintro ⟨x, h1, h2, _⟩; omega
  | d + 1, i => by
    have ih := telB_not l d (i + 1)
    have hany : (List.range' 0 i).any (pairB l i) = true ↔ ∃ j, j < i ∧ pairB l i j = true := by
      rw [List.any_eq_true]
      constructor
      · rintro ⟨j, hj, h⟩
        exact ⟨j, by simpa [List.mem_range'] using hj, h⟩
      · rintro ⟨j, hj, h⟩
        exact ⟨j, by simpa [List.mem_range'] using hj, h⟩
    rw [telB_succ]
    by_cases hb : (refMark l i).all (· == 0) = true
    · rw [if_pos hb]
      exact ⟨fun _ => ⟨i, Nat.le_refl _, by omega, .inl hb⟩, fun _ => rfl⟩
    · rw [if_neg hb]
      by_cases hp : (List.range' 0 i).any (pairB l i) = true
      · rw [if_pos hp]
        exact ⟨fun _ => ⟨i, Nat.le_refl _, by omega, .inr (hany.1 hp)⟩, fun _ => rfl⟩
      · rw [if_neg hp, ih]
        constructor
        · rintro ⟨x, h1, h2, h⟩
          exact ⟨x, by omega, by omega, h⟩
        · rintro ⟨x, h1, h2, h⟩
          rcases Nat.lt_or_ge i x with hx | hx
          · exact ⟨x, by omega, by omega, h⟩
          · obtain rfl : x = i := by omega
            rcases h with h | h
            · exact absurd h hb
            · exact absurd (hany.2 h) hp
theorem pair_comm (l : List S53) (i j : Nat) : pairB l i j = true → pairB l j i = true := by
  rw [pair_iff, pair_iff]
  rintro (h | h)
  · exact .inl fun y hy => (h y hy).symm
  · exact .inr fun y hy => by have := h y hy; omega
/-- Two cases that prove: the plan does not tell. -/
theorem chk_tel {lots : Int} {l : List S53} {c0 c1 d0 d1 : Int} (h : chkB lots l c0 c1 d0 d1 = 0) : pErr lots l = 0 ∧ telB l lots.toNat 0 = false := by
  unfold chkB at h
  by_cases hc : cErr lots l [⟨c0, c1⟩, ⟨d0, d1⟩] = 0
  rotate_left
  · rw [if_neg hc] at h; exact absurd h hc
  rw [if_pos hc] at h
  obtain ⟨hp, hr⟩ := cErr_ok hc
  obtain ⟨a1, a2, a3⟩ := hr ⟨c0, c1⟩ (by simp)
  obtain ⟨b1, b2, b3⟩ := hr ⟨d0, d1⟩ (by simp)
  dsimp only at a1 a2 a3 b1 b2 b3
  obtain ⟨n, rfl⟩ := Int.eq_ofNat_of_zero_le a1
  obtain ⟨m, rfl⟩ := Int.eq_ofNat_of_zero_le b1
  refine ⟨hp, ?_⟩
  rw [telB_not]
  by_cases hs : ((n : Int) == (m : Int) && c1 == d1) = true
  · rw [if_pos hs] at h
    split at h
    rotate_left
    · cases h
    rename_i hb
    rw [ansblank_iff l n a3, ← blank_iff] at hb
    exact ⟨n, by omega, by omega, .inl hb⟩
  · rw [if_neg hs] at h
    split at h
    rotate_left
    · cases h
    rename_i hb
    rw [anseq_iff l n m a3 b3] at hb
    rcases Nat.lt_trichotomy n m with hnm | hnm | hnm
    · refine ⟨m, by omega, by omega, .inr ⟨n, hnm, ?_⟩⟩
      rw [pair_iff]
      rcases a3 with rfl | rfl <;> rcases b3 with rfl | rfl
      · exact .inl fun y hy => by have := hb y hy; omega
      · exact .inr fun y hy => by have := hb y hy; omega
      · exact .inr fun y hy => by have := hb y hy; omega
      · exact .inl fun y hy => by have := hb y hy; omega
    · subst hnm
      refine ⟨n, by omega, by omega, .inl ((blank_iff l n).2 fun y hy => ?_)⟩
      have := hb y hy
      rcases a3 with rfl | rfl <;> rcases b3 with rfl | rfl
      · simp at hs
      · omega
      · omega
      · simp at hs
    · refine ⟨n, by omega, by omega, .inr ⟨m, hnm, ?_⟩⟩
      rw [pair_iff]
      rcases a3 with rfl | rfl <;> rcases b3 with rfl | rfl
      · exact .inl fun y hy => by have := hb y hy; omega
      · exact .inr fun y hy => by have := hb y hy; omega
      · exact .inr fun y hy => by have := hb y hy; omega
      · exact .inl fun y hy => by have := hb y hy; omega
/-- What bad finds. -/
theorem badJ_some (m : S70) (i : Int) : ∀ (os : List S70) (j : Int) (r : Int × Int × Int × Int), badJ m i os j = some r → ∃ x w, x < os.length ∧ (w = 1 ∨ w = -1) ∧ eqTim (os.getD x z70) m w = true ∧ r = (j + x, 1, i, w)
  | o :: os, j, r, h => by
    rw [badJ] at h
    by_cases h1 : eqTim o m 1 = true
    · rw [if_pos h1] at h
      obtain rfl := Option.some.inj h
      exact ⟨0, 1, by simp, .inl rfl, h1, by simp⟩
    · rw [if_neg h1] at h
      by_cases h2 : eqTim o m (-1) = true
      · rw [if_pos h2] at h
        obtain rfl := Option.some.inj h
        exact ⟨0, -1, by simp, .inr rfl, h2, by simp⟩
      · rw [if_neg h2] at h
        obtain ⟨x, w, hx, hw, he, rfl⟩ := badJ_some m i os (j + 1) r h
        exact ⟨x + 1, w, by simpa using hx, hw, by simpa using he, by simp; omega⟩
theorem badI_some (l : List S53) (hl : l.length ≤ 3) (n : Nat) : ∀ (d i : Nat) (r : Int × Int × Int × Int), i + d = n →
    badI ((List.range n).map (mk3 l)) (((List.range n).map (mk3 l)).drop i) i = some r →
    ∃ x, x < n ∧ ((r = ((x : Int), 1, (x : Int), 1) ∧ (refMark l x).all (· == 0) = true) ∨ ∃ (j : Nat) (w : Int), j < x ∧ (w = 1 ∨ w = -1) ∧ eqTim (mk3 l j) (mk3 l x) w = true ∧ r = ((j : Int), 1, (x : Int), w))
  | 0, i, r, h, hr => by
    rw [List.drop_eq_nil_of_le (by simp; omega)] at hr
    cases hr
  | d + 1, i, r, h, hr => by
    have hd : ((List.range n).map (mk3 l)).drop i = mk3 l i :: ((List.range n).map (mk3 l)).drop (i + 1) := by
      rw [List.drop_eq_getElem_cons (by simp; omega)]
      simp
    have ht : (((List.range n).map (mk3 l)).take i) = (List.range i).map (mk3 l) := by
      rw [← List.map_take, List.take_range, Nat.min_eq_left (by omega)]
    rw [hd, badI, ht, isZ_mk l i hl] at hr
    by_cases hz : (refMark l i).all (· == 0) = true
    · rw [if_pos hz] at hr
      obtain rfl := Option.some.inj hr
      exact ⟨i, by omega, .inl ⟨rfl, hz⟩⟩
    · rw [if_neg hz] at hr
      cases hj : badJ (mk3 l i) i ((List.range i).map (mk3 l)) 0 with
      | none =>
        rw [hj] at hr
        exact badI_some l hl n d (i + 1) r (by omega) hr
      | some q =>
        rw [hj] at hr
        obtain rfl := Option.some.inj hr
        obtain ⟨x, w, hx, hw, he, rfl⟩ := badJ_some _ _ _ _ _ hj
        have hx' : x < i := by simpa using hx
        refine ⟨i, by omega, .inr ⟨x, w, hx', hw, ?_, by simp⟩⟩
        have : ((List.range i).map (mk3 l)).getD x z70 = mk3 l x := by simp [List.getD_eq_getElem?_getD, hx']
        rwa [this] at he
theorem eqTim_iff (l : List S53) (hl : l.length ≤ 3) (i j : Nat) {w : Int} (hw : w = 1 ∨ w = -1) : eqTim (mk3 l j) (mk3 l i) w = true → ∀ y, y ∈ l → markOf j y = w * markOf i y := by
  intro h y hy
  have hs := (wr_small (markOf_small j y)).2.2
  rcases hw with rfl | rfl
  · rw [eqTim_pos l hl] at h
    unfold refMark at h
    rw [map_iff] at h
    have := h y hy
    omega
  · rw [eqTim_neg l hl] at h
    unfold refMark at h
    rw [List.map_map, map_iff] at h
    have := h y hy
    have h2 : ((fun y => wrap64 (-1 * y)) ∘ markOf (j : Int)) y = - markOf j y := (wr_small (markOf_small _ _)).2.2
    rw [h2] at this
    omega
theorem cErr_mk {lots : Int} {l : List S53} (hp : pErr lots l = 0) {c0 c1 d0 d1 : Int} (h1 : 0 ≤ c0 ∧ c0 < lots) (h2 : c1 = 1 ∨ c1 = -1) (h3 : 0 ≤ d0 ∧ d0 < lots) (h4 : d1 = 1 ∨ d1 = -1) : cErr lots l [⟨c0, c1⟩, ⟨d0, d1⟩] = 0 := by
  unfold cErr
  rw [if_pos hp, if_neg, if_neg]
  · simp only [List.any_cons, List.any_nil, Bool.or_false]
    rcases h2 with rfl | rfl <;> rcases h4 with rfl | rfl <;> decide
  · simp only [List.any_cons, List.any_nil, Bool.or_false]
    simp
    omega
theorem bad_chk {lots : Int} {l : List S53} (hp : pErr lots l = 0) {r : Int × Int × Int × Int} (h : badI (marksL lots l) (marksL lots l) 0 = some r) : chkB lots l r.1 r.2.1 r.2.2.1 r.2.2.2 = 0 := by
  have ok := pErr_ok hp
  have hlo := ok.lo
  rw [marksL_mk lots l (okP_pos ok)] at h
  have h' := badI_some l ok.few lots.toNat lots.toNat 0 r (by omega) (by simpa using h)
  obtain ⟨x, hx, ⟨rfl, hb⟩ | ⟨j, w, hj, hw, he, rfl⟩⟩ := h'
  · dsimp only
    unfold chkB
    rw [if_pos (cErr_mk hp ⟨by omega, by omega⟩ (.inl rfl) ⟨by omega, by omega⟩ (.inl rfl)), if_pos (by simp : ((x : Int) == x && (1 : Int) == 1) = true), if_pos]
    exact (ansblank_iff l x (.inl rfl)).2 ((blank_iff l x).1 hb)
  · dsimp only
    unfold chkB
    have hne : ¬ ((j : Int) == (x : Int) && (1 : Int) == w) = true := by
      simp only [Bool.and_eq_true, beq_iff_eq]
      omega
    rw [if_pos (cErr_mk hp ⟨by omega, by omega⟩ (.inl rfl) ⟨by omega, by omega⟩ hw), if_neg hne, if_pos]
    rw [anseq_iff l j x (.inl rfl) hw]
    intro y hy
    have := eqTim_iff l ok.few x j hw he y hy
    omega
end Go.Proofs.Ytdbeochifofdoaa.X
end
