/- The law WeighLeast: how few weighings are enough, for all numbers.
Its conditions: none beyond the statement's own. Part 4 of 4 of the proof. -/
import Derived.Test.YtdbeochifofdoaaRows
import Derived.WalkKit
import Derived.ProofKit
import Derived.OpenShut
import Derived.ShutString
import Derived.ChangeOld
import Derived.Below
import Derived.SizedLaws
import Derived.Test.YtdbeochifofdoaaKLeast2
section
-- Written by a program of this session (wip/hook.py, which runs the kit's print.py with contracts proved by hand). Not trusted: Lean checks it.
namespace Go.Proofs.Ytdbeochifofdoaa.X
open Go.RowKit Go.Proofs.YtdbeochifofdoaaW.PrintWords Go.Proofs.YtdbeochifofdoaaW.PrintLast Go.Proofs.YtdbeochifofdoaaW.PrintMore
attribute [local go_sem] max2_int min2_int max_two min_two max_three min_three max_four min_four   -- for this text's walks alone
set_option linter.unusedVariables false
set_option linter.unusedSimpArgs false

/-! ### weigh_Least: function 27 -/
def weigh_Least.l0 : Nat → Int → Int → Option (Int × Int)
  | 0, _, _ => none
  | k + 1, x0, x13 => if x13 < 4 then ((weigh_search.f x0 x13).bind fun bt324 => (if bt324.2 = true then (some (x13, 0)) else (weigh_Least.l0 k x0 (wrap64 (x13 + 1))))) else (some (0, 4))
def weigh_Least.f (k : Nat) (a0 : Int) : Option (Int × Int) := (weigh_counted.f a0 0).bind fun t323 => (if t323 = 0 then (weigh_Least.l0 k a0 0) else (some (0, t323)))
theorem weigh_Least.mono_l : ∀ k, (∀ y0 y1, LeO (weigh_Least.l0 k y0 y1) (weigh_Least.l0 (k + 1) y0 y1))
  | 0 => fun _ _ r h => by simp [weigh_Least.l0] at h
  | k + 1 => by
    have ih0 := weigh_Least.mono_l k
    · intro y0 y1
      unfold weigh_Least.l0
      repeat' first
      | (with_reducible exact ih0 _ _)
      | (with_reducible exact LeO.refl _)
      | (with_reducible exact LeO.none _)
      | (with_reducible refine LeO.ite ?_ ?_)
      | (with_reducible refine LeO.bind ?_ (fun _ => ?_))
      | exact ih0 _ _
      | exact LeO.none _
      | refine LeO.ite ?_ ?_
      | refine LeO.bind ?_ (fun _ => ?_)
theorem weigh_Least.mono : ∀ a0 k, LeO (weigh_Least.f k a0) (weigh_Least.f (k + 1) a0) := by
  intro a0 k
  have ih0 := weigh_Least.mono_l k
  unfold weigh_Least.f
  repeat' first
      | (with_reducible exact ih0 _ _)
      | (with_reducible exact LeO.refl _)
      | (with_reducible exact LeO.none _)
      | (with_reducible refine LeO.ite ?_ ?_)
      | (with_reducible refine LeO.bind ?_ (fun _ => ?_))
      | exact ih0 _ _
      | exact LeO.none _
      | refine LeO.ite ?_ ?_
      | refine LeO.bind ?_ (fun _ => ?_)
set_option maxHeartbeats 8000000 in
set_option maxRecDepth 100000 in
theorem weigh_Least.calls (k : Nat) (a0 : Int) (r1 : Int) (r2 : Int) (w : World) (h : weigh_Least.f k a0 = some (r1, r2)) :
    Calls Try.prog 27 #[.int .i64 a0] w fun e w' => e = .returned (.tuple #[.int .i64 r1, .int .i64 r2]) ∧ Below w.heap.size w w' := by
  have HB := Aside0.mk (Below.refl w.heap.size w)
  have H : ((weigh_counted.f a0 0).bind fun t323 => (if t323 = 0 then (weigh_Least.l0 k a0 0) else (some (0, t323)))) = some (r1, r2) := h
  clear h
  replace H := Option.bind_eq_some_iff.mp H
  obtain ⟨t323, A20, H⟩ := H
  replace H : (if t323 = 0 then (weigh_Least.l0 k a0 0) else (some (0, t323))) = some (r1, r2) := H
  have A2 := Aside0.mk A20
  clear A20
  by_cases c3 : t323 = 0
  · rw [if_pos c3] at H
    have c3b0 : (t323 == 0) = true := beq_iff_eq.mpr c3
    have c3b1 : (t323 != 0) = false := bne_eq_false_iff_eq.mpr c3
    clear c3
    have H' := Aside0.mk H
    clear H
    go_enter Try.func27, Try.ntmps27
    go_wp2_with (first | ((with_reducible refine gate_callee (f := 49) rfl ?_); refine goesL_ (some 9) rfl rfl Try.func49 (by kernel_rfl) rfl #[.int .i64 a0, .int .i64 0] rfl (by (try simp only [List.map_toArray, List.map_cons, List.map_nil]); first | done | rfl | (simp only [List.length_drop, List.length_take]; rfl)) ?_; (with_reducible refine (weigh_counted.calls a0 0 t323 _ A2.out).mono ?_); rintro e w' ⟨rfl, ⟨nd, rfl⟩⟩; refine ⟨_, rfl, ?_⟩))
    go_loopg [13] k (fun kq v13 w' => ∃ (x13_1 : Int), v13 = .int .i64 x13_1 ∧ Aside0 (weigh_Least.l0 kq a0 x13_1 = some (r1, r2)) ∧ Aside0 (kq ≤ k) ∧ Aside0 (Below w.heap.size w w'))
    case atStart => exact ⟨(0), (by first | rfl | (simp; done) | (simp [*]; done)), H', ⟨Nat.le_refl _⟩, ⟨by repeat (first | (with_reducible first | exact HB.out | apply below_alloc | apply pw_below_drewN | apply below_drew1) | exact HB.out)⟩⟩
    case round =>
      clear H'
      try clear c2
      try clear p2
      try clear c3
      try clear c3b0
      try clear c3b1
      obtain ⟨x13_1, rfl, HA, HK1, HB⟩ := hrel
      cases gk with
      | zero => exact absurd HA.out (by simp [weigh_Least.l0])
      | succ k1 =>
        have H := HA.out
        clear HA
        simp only [weigh_Least.l0] at H
        by_cases c4 : x13_1 < 4
        · rw [if_pos c4] at H
          have c4b0 : decide (x13_1 < 4) = true := decide_eq_true c4
          clear c4
          replace H := Option.bind_eq_some_iff.mp H
          obtain ⟨⟨t324, t325⟩, A50, H⟩ := H
          replace H : (if t325 = true then (some (x13_1, 0)) else (weigh_Least.l0 k1 a0 (wrap64 (x13_1 + 1)))) = some (r1, r2) := H
          have A5 := Aside0.mk A50
          clear A50
          by_cases c6 : t325 = true
          · subst c6
            have H1 : (some (x13_1, 0)) = some (r1, r2) := by rw [if_pos rfl] at H; exact H
            clear H
            have H := H1
            clear H1
            simp only [Option.some.injEq, Prod.mk.injEq] at H
            obtain ⟨rfl, rfl⟩ := H
            go_wp2_with (first | ((with_reducible refine gate_callee (f := 50) rfl ?_); refine goesL_ (some 19) rfl rfl Try.func50 (by kernel_rfl) rfl #[.int .i64 a0, .int .i64 x13_1] rfl (by (try simp only [List.map_toArray, List.map_cons, List.map_nil]); first | done | rfl | (simp only [List.length_drop, List.length_take]; rfl)) ?_; (with_reducible refine (weigh_search.calls a0 x13_1 t324 true _ A5.out).mono ?_); rintro e w7 ⟨v326, rfl, ho0, hb⟩; refine ⟨_, rfl, ?_⟩; have n0_ := Aside0.mk (Kd.R_lower ho0 (below_size (by repeat (first | (with_reducible first | exact HB.out | apply below_alloc | apply pw_below_drewN | apply below_drew1) | exact HB.out)))); have n1_ := Aside0.mk (below_step (by repeat (first | (with_reducible first | exact HB.out | apply below_alloc | apply pw_below_drewN | apply below_drew1) | exact HB.out)) hb); clear HB; have HO327 := n0_; have HB := n1_; clear n0_ n1_; (try clear hb); (try clear hb2); (try clear hk); (try clear hi); (try clear ho0)))
            go_ret2
            exact ⟨by first | rfl | (simp [errW_none, errW_some] <;> rfl) | (simp [*, errW_none, errW_some] <;> rfl), by repeat (first | (with_reducible first | exact HB.out | apply below_alloc | apply pw_below_drewN | apply below_drew1) | exact HB.out)⟩
          · replace c6 := Bool.eq_false_iff.mpr c6
            subst c6
            have H1 : (weigh_Least.l0 k1 a0 (wrap64 (x13_1 + 1))) = some (r1, r2) := by rw [if_neg (show ¬ (false = true) by decide)] at H; exact H
            clear H
            have H := H1
            clear H1
            have H' := Aside0.mk H
            clear H
            go_wp2_with (first | ((with_reducible refine gate_callee (f := 50) rfl ?_); refine goesL_ (some 19) rfl rfl Try.func50 (by kernel_rfl) rfl #[.int .i64 a0, .int .i64 x13_1] rfl (by (try simp only [List.map_toArray, List.map_cons, List.map_nil]); first | done | rfl | (simp only [List.length_drop, List.length_take]; rfl)) ?_; (with_reducible refine (weigh_search.calls a0 x13_1 t324 false _ A5.out).mono ?_); rintro e w8 ⟨v326, rfl, ho0, hb⟩; refine ⟨_, rfl, ?_⟩; have n0_ := Aside0.mk (Kd.R_lower ho0 (below_size (by repeat (first | (with_reducible first | exact HB.out | apply below_alloc | apply pw_below_drewN | apply below_drew1) | exact HB.out)))); have n1_ := Aside0.mk (below_step (by repeat (first | (with_reducible first | exact HB.out | apply below_alloc | apply pw_below_drewN | apply below_drew1) | exact HB.out)) hb); clear HB; have HO327 := n0_; have HB := n1_; clear n0_ n1_; (try clear hb); (try clear hb2); (try clear hk); (try clear hi); (try clear ho0)))
            go_roundg k1
            case measure => have := HK1.out; omega
            case rel => exact ⟨(wrap64 (x13_1 + 1)), (by first | rfl | (simp; done) | (simp [*]; done)), H', ⟨by have := HK1.out; omega⟩, ⟨by repeat (first | (with_reducible first | exact HB.out | apply below_alloc | apply pw_below_drewN | apply below_drew1) | exact HB.out)⟩⟩
        · rw [if_neg c4] at H
          have c4b0 : decide (x13_1 < 4) = false := decide_eq_false c4
          clear c4
          simp only [Option.some.injEq, Prod.mk.injEq] at H
          obtain ⟨rfl, rfl⟩ := H
          go_wp2
          go_ret2
          exact ⟨by first | rfl | (simp [errW_none, errW_some] <;> rfl) | (simp [*, errW_none, errW_some] <;> rfl), by repeat (first | (with_reducible first | exact HB.out | apply below_alloc | apply pw_below_drewN | apply below_drew1) | exact HB.out)⟩
  · rw [if_neg c3] at H
    have c3b0 : (t323 == 0) = false := beq_eq_false_iff_ne.mpr c3
    have c3b1 : (t323 != 0) = true := bne_iff_ne.mpr c3
    simp only [Option.some.injEq, Prod.mk.injEq] at H
    obtain ⟨rfl, rfl⟩ := H
    go_enter Try.func27, Try.ntmps27
    go_wp2_with (first | ((with_reducible refine gate_callee (f := 49) rfl ?_); refine goesL_ (some 9) rfl rfl Try.func49 (by kernel_rfl) rfl #[.int .i64 a0, .int .i64 0] rfl (by (try simp only [List.map_toArray, List.map_cons, List.map_nil]); first | done | rfl | (simp only [List.length_drop, List.length_take]; rfl)) ?_; (with_reducible refine (weigh_counted.calls a0 0 t323 _ A2.out).mono ?_); rintro e w' ⟨rfl, ⟨nd, rfl⟩⟩; refine ⟨_, rfl, ?_⟩))
    go_ret2
    exact ⟨by first | rfl | (simp [errW_none, errW_some] <;> rfl) | (simp [*, errW_none, errW_some] <;> rfl), by repeat (first | (with_reducible first | exact HB.out | apply below_alloc | apply pw_below_drewN | apply below_drew1) | exact HB.out)⟩

end Go.Proofs.Ytdbeochifofdoaa.X
end

section
-- Written by a program of this session (wip/hook.py, which runs the kit's print.py with contracts proved by hand). Not trusted: Lean checks it.
namespace Go.Proofs.Ytdbeochifofdoaa.X
open Go.RowKit Go.Proofs.YtdbeochifofdoaaW.PrintWords Go.Proofs.YtdbeochifofdoaaW.PrintLast Go.Proofs.YtdbeochifofdoaaW.PrintMore
attribute [local go_sem] max2_int min2_int max_two min_two max_three min_three max_four min_four   -- for this text's walks alone
set_option linter.unusedVariables false
set_option linter.unusedSimpArgs false

/-! ### verditerlaw06_WeighLeast: function 6 -/
def verditerlaw06_WeighLeast.f (k : Nat) (a0 : Int) : Option (Bool) := (verditerref06_Least.f k a0).bind fun bt328 => ((weigh_Least.f k a0).bind fun bt330 => (if bt330.1 = bt328.1 then (if bt330.2 = bt328.2 then ((verditerlaw06_known.f k).bind fun t332 => (some t332)) else (some false)) else (some false)))
theorem verditerlaw06_WeighLeast.mono : ∀ a0 k, LeO (verditerlaw06_WeighLeast.f k a0) (verditerlaw06_WeighLeast.f (k + 1) a0) := by
  intro a0 k
  unfold verditerlaw06_WeighLeast.f
  repeat' first
      | (with_reducible exact verditerlaw06_known.mono _)
      | (with_reducible exact verditerref06_Least.mono _ _)
      | (with_reducible exact weigh_Least.mono _ _)
      | (with_reducible exact LeO.refl _)
      | (with_reducible exact LeO.none _)
      | (with_reducible refine LeO.ite ?_ ?_)
      | (with_reducible refine LeO.bind ?_ (fun _ => ?_))
      | exact verditerlaw06_known.mono _
      | exact verditerref06_Least.mono _ _
      | exact weigh_Least.mono _ _
      | exact LeO.none _
      | refine LeO.ite ?_ ?_
      | refine LeO.bind ?_ (fun _ => ?_)
set_option maxHeartbeats 8000000 in
set_option maxRecDepth 100000 in
theorem verditerlaw06_WeighLeast.calls (k : Nat) (a0 : Int) (r : Bool) (w : World) (h : verditerlaw06_WeighLeast.f k a0 = some r) :
    Calls Try.prog 6 #[.int .i64 a0] w fun e w' => e = .returned (.bool r) ∧ Below w.heap.size w w' := by
  have HB := Aside0.mk (Below.refl w.heap.size w)
  have H : ((verditerref06_Least.f k a0).bind fun bt328 => ((weigh_Least.f k a0).bind fun bt330 => (if bt330.1 = bt328.1 then (if bt330.2 = bt328.2 then ((verditerlaw06_known.f k).bind fun t332 => (some t332)) else (some false)) else (some false)))) = some r := h
  clear h
  replace H := Option.bind_eq_some_iff.mp H
  obtain ⟨⟨t328, t329⟩, A20, H⟩ := H
  replace H : ((weigh_Least.f k a0).bind fun bt330 => (if bt330.1 = t328 then (if bt330.2 = t329 then ((verditerlaw06_known.f k).bind fun t332 => (some t332)) else (some false)) else (some false))) = some r := H
  have A2 := Aside0.mk A20
  clear A20
  replace H := Option.bind_eq_some_iff.mp H
  obtain ⟨⟨t330, t331⟩, A30, H⟩ := H
  replace H : (if t330 = t328 then (if t331 = t329 then ((verditerlaw06_known.f k).bind fun t332 => (some t332)) else (some false)) else (some false)) = some r := H
  have A3 := Aside0.mk A30
  clear A30
  by_cases c4 : t330 = t328
  · rw [if_pos c4] at H
    have c4b0 : (t330 == t328) = true := beq_iff_eq.mpr c4
    have c4b1 : (t330 != t328) = false := bne_eq_false_iff_eq.mpr c4
    clear c4
    by_cases c5 : t331 = t329
    · rw [if_pos c5] at H
      have c5b0 : (t331 == t329) = true := beq_iff_eq.mpr c5
      have c5b1 : (t331 != t329) = false := bne_eq_false_iff_eq.mpr c5
      clear c5
      replace H := Option.bind_eq_some_iff.mp H
      obtain ⟨t332, A60, H⟩ := H
      replace H : (some t332) = some r := H
      have A6 := Aside0.mk A60
      clear A60
      obtain rfl := Option.some.inj H
      go_enter Try.func6, Try.ntmps6
      go_wp2_with (first | ((with_reducible refine gate_callee (f := 26) rfl ?_); refine goesL_ (some 9) rfl rfl Try.func26 (by kernel_rfl) rfl #[.int .i64 a0] rfl (by (try simp only [List.map_toArray, List.map_cons, List.map_nil]); first | done | rfl | (simp only [List.length_drop, List.length_take]; rfl)) ?_; (with_reducible refine (verditerref06_Least.calls k a0 t328 t329 _ A2.out).mono ?_); rintro e w7 ⟨rfl, hb⟩; refine ⟨_, rfl, ?_⟩; have n0_ := Aside0.mk (below_step (by repeat (first | (with_reducible first | exact HB.out | apply below_alloc | apply pw_below_drewN | apply below_drew1) | exact HB.out)) hb); clear HB; have HB := n0_; clear n0_; (try clear hb); (try clear hb2); (try clear hk); (try clear hi)) | ((with_reducible refine gate_callee (f := 27) rfl ?_); refine goesL_ (some 14) rfl rfl Try.func27 (by kernel_rfl) rfl #[.int .i64 a0] rfl (by (try simp only [List.map_toArray, List.map_cons, List.map_nil]); first | done | rfl | (simp only [List.length_drop, List.length_take]; rfl)) ?_; (with_reducible refine (weigh_Least.calls k a0 t330 t331 _ A3.out).mono ?_); rintro e w8 ⟨rfl, hb⟩; refine ⟨_, rfl, ?_⟩; have n0_ := Aside0.mk (below_step (by repeat (first | (with_reducible first | exact HB.out | apply below_alloc | apply pw_below_drewN | apply below_drew1) | exact HB.out)) hb); clear HB; have HB := n0_; clear n0_; (try clear hb); (try clear hb2); (try clear hk); (try clear hi)) | (go_at_call 25; (with_reducible refine (verditerlaw06_known.calls k  t332 _ A6.out).mono ?_); rintro e w9 ⟨rfl, hb⟩; have n0_ := Aside0.mk (below_step (by repeat (first | (with_reducible first | exact HB.out | apply below_alloc | apply pw_below_drewN | apply below_drew1) | exact HB.out)) hb); clear HB; have HB := n0_; clear n0_; (try clear hb); (try clear hb2); (try clear hk); (try clear hi)))
      go_ret
      exact ⟨by first | rfl | (simp [errW_none, errW_some] <;> rfl) | (simp [*, errW_none, errW_some] <;> rfl), by repeat (first | (with_reducible first | exact HB.out | apply below_alloc | apply pw_below_drewN | apply below_drew1) | exact HB.out)⟩
    · rw [if_neg c5] at H
      have c5b0 : (t331 == t329) = false := beq_eq_false_iff_ne.mpr c5
      have c5b1 : (t331 != t329) = true := bne_iff_ne.mpr c5
      obtain rfl := Option.some.inj H
      go_enter Try.func6, Try.ntmps6
      go_wp2_with (first | ((with_reducible refine gate_callee (f := 26) rfl ?_); refine goesL_ (some 9) rfl rfl Try.func26 (by kernel_rfl) rfl #[.int .i64 a0] rfl (by (try simp only [List.map_toArray, List.map_cons, List.map_nil]); first | done | rfl | (simp only [List.length_drop, List.length_take]; rfl)) ?_; (with_reducible refine (verditerref06_Least.calls k a0 t328 t329 _ A2.out).mono ?_); rintro e w10 ⟨rfl, hb⟩; refine ⟨_, rfl, ?_⟩; have n0_ := Aside0.mk (below_step (by repeat (first | (with_reducible first | exact HB.out | apply below_alloc | apply pw_below_drewN | apply below_drew1) | exact HB.out)) hb); clear HB; have HB := n0_; clear n0_; (try clear hb); (try clear hb2); (try clear hk); (try clear hi)) | ((with_reducible refine gate_callee (f := 27) rfl ?_); refine goesL_ (some 14) rfl rfl Try.func27 (by kernel_rfl) rfl #[.int .i64 a0] rfl (by (try simp only [List.map_toArray, List.map_cons, List.map_nil]); first | done | rfl | (simp only [List.length_drop, List.length_take]; rfl)) ?_; (with_reducible refine (weigh_Least.calls k a0 t330 t331 _ A3.out).mono ?_); rintro e w11 ⟨rfl, hb⟩; refine ⟨_, rfl, ?_⟩; have n0_ := Aside0.mk (below_step (by repeat (first | (with_reducible first | exact HB.out | apply below_alloc | apply pw_below_drewN | apply below_drew1) | exact HB.out)) hb); clear HB; have HB := n0_; clear n0_; (try clear hb); (try clear hb2); (try clear hk); (try clear hi)))
      go_ret
      exact ⟨by first | rfl | (simp [errW_none, errW_some] <;> rfl) | (simp [*, errW_none, errW_some] <;> rfl), by repeat (first | (with_reducible first | exact HB.out | apply below_alloc | apply pw_below_drewN | apply below_drew1) | exact HB.out)⟩
  · rw [if_neg c4] at H
    have c4b0 : (t330 == t328) = false := beq_eq_false_iff_ne.mpr c4
    have c4b1 : (t330 != t328) = true := bne_iff_ne.mpr c4
    obtain rfl := Option.some.inj H
    go_enter Try.func6, Try.ntmps6
    go_wp2_with (first | ((with_reducible refine gate_callee (f := 26) rfl ?_); refine goesL_ (some 9) rfl rfl Try.func26 (by kernel_rfl) rfl #[.int .i64 a0] rfl (by (try simp only [List.map_toArray, List.map_cons, List.map_nil]); first | done | rfl | (simp only [List.length_drop, List.length_take]; rfl)) ?_; (with_reducible refine (verditerref06_Least.calls k a0 t328 t329 _ A2.out).mono ?_); rintro e w12 ⟨rfl, hb⟩; refine ⟨_, rfl, ?_⟩; have n0_ := Aside0.mk (below_step (by repeat (first | (with_reducible first | exact HB.out | apply below_alloc | apply pw_below_drewN | apply below_drew1) | exact HB.out)) hb); clear HB; have HB := n0_; clear n0_; (try clear hb); (try clear hb2); (try clear hk); (try clear hi)) | ((with_reducible refine gate_callee (f := 27) rfl ?_); refine goesL_ (some 14) rfl rfl Try.func27 (by kernel_rfl) rfl #[.int .i64 a0] rfl (by (try simp only [List.map_toArray, List.map_cons, List.map_nil]); first | done | rfl | (simp only [List.length_drop, List.length_take]; rfl)) ?_; (with_reducible refine (weigh_Least.calls k a0 t330 t331 _ A3.out).mono ?_); rintro e w13 ⟨rfl, hb⟩; refine ⟨_, rfl, ?_⟩; have n0_ := Aside0.mk (below_step (by repeat (first | (with_reducible first | exact HB.out | apply below_alloc | apply pw_below_drewN | apply below_drew1) | exact HB.out)) hb); clear HB; have HB := n0_; clear n0_; (try clear hb); (try clear hb2); (try clear hk); (try clear hi)))
    go_ret
    exact ⟨by first | rfl | (simp [errW_none, errW_some] <;> rfl) | (simp [*, errW_none, errW_some] <;> rfl), by repeat (first | (with_reducible first | exact HB.out | apply below_alloc | apply pw_below_drewN | apply below_drew1) | exact HB.out)⟩

/-- THE ONE PURE STATEMENT of verditerlaw06_WeighLeast: yours. -/
def verditerlaw06_WeighLeast.Pure : Prop := ∀ (a0 : Int), (Lit.int .i64 a0).wf = true → ∃ k, verditerlaw06_WeighLeast.f k a0 = some true
theorem verditerlaw06_WeighLeast.walk (P : verditerlaw06_WeighLeast.Pure) (a0 : Int) (w : World) (w0 : (Lit.int .i64 a0).wf = true) :
    Calls Try.prog 6 #[.int .i64 a0] w fun e w' => e = .returned (.bool true) ∧ Below w.heap.size w w' := by
  obtain ⟨k, h⟩ := P a0 w0
  refine (verditerlaw06_WeighLeast.calls k a0 true w h).mono ?_
  rintro e w' ⟨rfl, hd⟩
  exact ⟨rfl, hd⟩

end Go.Proofs.Ytdbeochifofdoaa.X
end

section
/-! The two searches, carried out. -/
namespace Go.Proofs.Ytdbeochifofdoaa.X
open Go.RowKit
/-- Can so many lots be told with so many weighings? -/
def tblM (w : Nat) (i : Nat) : Bool := if w = 2 then i == 3 else if w = 3 then decide (3 ≤ i) && decide (i ≤ 12) else false
set_option maxRecDepth 100000 in
theorem tblA : ∀ w, w < 4 → ∀ i, i < 13 → (searchA ((i + 1 : Nat) : Int) w).isSome = tblM w (i + 1) := by decide +kernel
set_option maxRecDepth 100000 in
theorem tblS : ∀ w, w < 4 → ∀ i, i < 13 → someB (ml9 ((w : Nat) : Int) 27) ((i + 1 : Nat) : Int) 0 0 0 = tblM w (i + 1) := by decide +kernel
end Go.Proofs.Ytdbeochifofdoaa.X
end

section
-- Written by a program of this session (wip/hook.py, which runs the kit's print.py with contracts proved by hand). Not trusted: Lean checks it.
namespace Go.Proofs.Ytdbeochifofdoaa.X
open Go.RowKit Go.Proofs.YtdbeochifofdoaaW.PrintWords Go.Proofs.YtdbeochifofdoaaW.PrintLast Go.Proofs.YtdbeochifofdoaaW.PrintMore
attribute [local go_sem] max2_int min2_int max_two min_two max_three min_three max_four min_four   -- for this text's walks alone
set_option linter.unusedVariables false
set_option linter.unusedSimpArgs false

/-! ### verditerref06_Most: function 21 -/
def verditerref06_Most.l0 : Nat → Int → Int → Option (Int × Int)
  | 0, _, _ => none
  | k + 1, x0, x5 => if x5 > 0 then ((verditerref06_can.f x5 x0).bind fun t303 => (if t303 = true then (some (x5, 0)) else (verditerref06_Most.l0 k x0 (wrap64 (x5 - 1))))) else (some (0, 0))
def verditerref06_Most.f (k : Nat) (a0 : Int) : Option (Int × Int) := (verditerref06_numbered.f 1 a0).bind fun t302 => (if t302 = 0 then (verditerref06_Most.l0 k a0 13) else (some (0, t302)))
theorem verditerref06_Most.mono_l : ∀ k, (∀ y0 y1, LeO (verditerref06_Most.l0 k y0 y1) (verditerref06_Most.l0 (k + 1) y0 y1))
  | 0 => fun _ _ r h => by simp [verditerref06_Most.l0] at h
  | k + 1 => by
    have ih0 := verditerref06_Most.mono_l k
    · intro y0 y1
      unfold verditerref06_Most.l0
      repeat' first
      | (with_reducible exact ih0 _ _)
      | (with_reducible exact LeO.refl _)
      | (with_reducible exact LeO.none _)
      | (with_reducible refine LeO.ite ?_ ?_)
      | (with_reducible refine LeO.bind ?_ (fun _ => ?_))
      | exact ih0 _ _
      | exact LeO.none _
      | refine LeO.ite ?_ ?_
      | refine LeO.bind ?_ (fun _ => ?_)
theorem verditerref06_Most.mono : ∀ a0 k, LeO (verditerref06_Most.f k a0) (verditerref06_Most.f (k + 1) a0) := by
  intro a0 k
  have ih0 := verditerref06_Most.mono_l k
  unfold verditerref06_Most.f
  repeat' first
      | (with_reducible exact ih0 _ _)
      | (with_reducible exact LeO.refl _)
      | (with_reducible exact LeO.none _)
      | (with_reducible refine LeO.ite ?_ ?_)
      | (with_reducible refine LeO.bind ?_ (fun _ => ?_))
      | exact ih0 _ _
      | exact LeO.none _
      | refine LeO.ite ?_ ?_
      | refine LeO.bind ?_ (fun _ => ?_)
set_option maxHeartbeats 8000000 in
set_option maxRecDepth 100000 in
theorem verditerref06_Most.calls (k : Nat) (a0 : Int) (r1 : Int) (r2 : Int) (w : World) (h : verditerref06_Most.f k a0 = some (r1, r2)) :
    Calls Try.prog 21 #[.int .i64 a0] w fun e w' => e = .returned (.tuple #[.int .i64 r1, .int .i64 r2]) ∧ Below w.heap.size w w' := by
  have HB := Aside0.mk (Below.refl w.heap.size w)
  have H : ((verditerref06_numbered.f 1 a0).bind fun t302 => (if t302 = 0 then (verditerref06_Most.l0 k a0 13) else (some (0, t302)))) = some (r1, r2) := h
  clear h
  replace H := Option.bind_eq_some_iff.mp H
  obtain ⟨t302, A20, H⟩ := H
  replace H : (if t302 = 0 then (verditerref06_Most.l0 k a0 13) else (some (0, t302))) = some (r1, r2) := H
  have A2 := Aside0.mk A20
  clear A20
  by_cases c3 : t302 = 0
  · rw [if_pos c3] at H
    have c3b0 : (t302 == 0) = true := beq_iff_eq.mpr c3
    have c3b1 : (t302 != 0) = false := bne_eq_false_iff_eq.mpr c3
    clear c3
    have H' := Aside0.mk H
    clear H
    go_enter Try.func21, Try.ntmps21
    go_wp2_with (first | ((with_reducible refine gate_callee (f := 47) rfl ?_); refine goesL_ (some 7) rfl rfl Try.func47 (by kernel_rfl) rfl #[.int .i64 1, .int .i64 a0] rfl (by (try simp only [List.map_toArray, List.map_cons, List.map_nil]); first | done | rfl | (simp only [List.length_drop, List.length_take]; rfl)) ?_; (with_reducible refine (verditerref06_numbered.calls 1 a0 t302 _ A2.out).mono ?_); rintro e w' ⟨rfl, ⟨nd, rfl⟩⟩; refine ⟨_, rfl, ?_⟩))
    go_loopg [5] k (fun kq v5 w' => ∃ (x5_1 : Int), v5 = .int .i64 x5_1 ∧ Aside0 (verditerref06_Most.l0 kq a0 x5_1 = some (r1, r2)) ∧ Aside0 (kq ≤ k) ∧ Aside0 (Below w.heap.size w w'))
    case atStart => exact ⟨(13), (by first | rfl | (simp; done) | (simp [*]; done)), H', ⟨Nat.le_refl _⟩, ⟨by repeat (first | (with_reducible first | exact HB.out | apply below_alloc | apply pw_below_drewN | apply below_drew1) | exact HB.out)⟩⟩
    case round =>
      clear H'
      try clear c2
      try clear p2
      try clear c3
      try clear c3b0
      try clear c3b1
      obtain ⟨x5_1, rfl, HA, HK1, HB⟩ := hrel
      cases gk with
      | zero => exact absurd HA.out (by simp [verditerref06_Most.l0])
      | succ k1 =>
        have H := HA.out
        clear HA
        simp only [verditerref06_Most.l0] at H
        by_cases c4 : x5_1 > 0
        · rw [if_pos c4] at H
          have c4b0 : decide (0 < x5_1) = true := decide_eq_true c4
          clear c4
          replace H := Option.bind_eq_some_iff.mp H
          obtain ⟨t303, A50, H⟩ := H
          replace H : (if t303 = true then (some (x5_1, 0)) else (verditerref06_Most.l0 k1 a0 (wrap64 (x5_1 - 1)))) = some (r1, r2) := H
          have A5 := Aside0.mk A50
          clear A50
          by_cases c6 : t303 = true
          · subst c6
            have H1 : (some (x5_1, 0)) = some (r1, r2) := by rw [if_pos rfl] at H; exact H
            clear H
            have H := H1
            clear H1
            simp only [Option.some.injEq, Prod.mk.injEq] at H
            obtain ⟨rfl, rfl⟩ := H
            go_wp2_with (first | ((with_reducible refine gate_callee (f := 48) rfl ?_); refine goesL_ (some 17) rfl rfl Try.func48 (by kernel_rfl) rfl #[.int .i64 x5_1, .int .i64 a0] rfl (by (try simp only [List.map_toArray, List.map_cons, List.map_nil]); first | done | rfl | (simp only [List.length_drop, List.length_take]; rfl)) ?_; (with_reducible refine (verditerref06_can.calls x5_1 a0 true _ A5.out).mono ?_); rintro e w7 ⟨rfl, hb⟩; refine ⟨_, rfl, ?_⟩; have n0_ := Aside0.mk (below_step (by repeat (first | (with_reducible first | exact HB.out | apply below_alloc | apply pw_below_drewN | apply below_drew1) | exact HB.out)) hb); clear HB; have HB := n0_; clear n0_; (try clear hb); (try clear hb2); (try clear hk); (try clear hi)))
            go_ret2
            exact ⟨by first | rfl | (simp [errW_none, errW_some] <;> rfl) | (simp [*, errW_none, errW_some] <;> rfl), by repeat (first | (with_reducible first | exact HB.out | apply below_alloc | apply pw_below_drewN | apply below_drew1) | exact HB.out)⟩
          · replace c6 := Bool.eq_false_iff.mpr c6
            subst c6
            have H1 : (verditerref06_Most.l0 k1 a0 (wrap64 (x5_1 - 1))) = some (r1, r2) := by rw [if_neg (show ¬ (false = true) by decide)] at H; exact H
            clear H
            have H := H1
            clear H1
            have H' := Aside0.mk H
            clear H
            go_wp2_with (first | ((with_reducible refine gate_callee (f := 48) rfl ?_); refine goesL_ (some 17) rfl rfl Try.func48 (by kernel_rfl) rfl #[.int .i64 x5_1, .int .i64 a0] rfl (by (try simp only [List.map_toArray, List.map_cons, List.map_nil]); first | done | rfl | (simp only [List.length_drop, List.length_take]; rfl)) ?_; (with_reducible refine (verditerref06_can.calls x5_1 a0 false _ A5.out).mono ?_); rintro e w8 ⟨rfl, hb⟩; refine ⟨_, rfl, ?_⟩; have n0_ := Aside0.mk (below_step (by repeat (first | (with_reducible first | exact HB.out | apply below_alloc | apply pw_below_drewN | apply below_drew1) | exact HB.out)) hb); clear HB; have HB := n0_; clear n0_; (try clear hb); (try clear hb2); (try clear hk); (try clear hi)))
            go_roundg k1
            case measure => have := HK1.out; omega
            case rel => exact ⟨(wrap64 (x5_1 - 1)), (by first | rfl | (simp; done) | (simp [*]; done)), H', ⟨by have := HK1.out; omega⟩, ⟨by repeat (first | (with_reducible first | exact HB.out | apply below_alloc | apply pw_below_drewN | apply below_drew1) | exact HB.out)⟩⟩
        · rw [if_neg c4] at H
          have c4b0 : decide (0 < x5_1) = false := decide_eq_false c4
          clear c4
          simp only [Option.some.injEq, Prod.mk.injEq] at H
          obtain ⟨rfl, rfl⟩ := H
          go_wp2
          go_ret2
          exact ⟨by first | rfl | (simp [errW_none, errW_some] <;> rfl) | (simp [*, errW_none, errW_some] <;> rfl), by repeat (first | (with_reducible first | exact HB.out | apply below_alloc | apply pw_below_drewN | apply below_drew1) | exact HB.out)⟩
  · rw [if_neg c3] at H
    have c3b0 : (t302 == 0) = false := beq_eq_false_iff_ne.mpr c3
    have c3b1 : (t302 != 0) = true := bne_iff_ne.mpr c3
    simp only [Option.some.injEq, Prod.mk.injEq] at H
    obtain ⟨rfl, rfl⟩ := H
    go_enter Try.func21, Try.ntmps21
    go_wp2_with (first | ((with_reducible refine gate_callee (f := 47) rfl ?_); refine goesL_ (some 7) rfl rfl Try.func47 (by kernel_rfl) rfl #[.int .i64 1, .int .i64 a0] rfl (by (try simp only [List.map_toArray, List.map_cons, List.map_nil]); first | done | rfl | (simp only [List.length_drop, List.length_take]; rfl)) ?_; (with_reducible refine (verditerref06_numbered.calls 1 a0 t302 _ A2.out).mono ?_); rintro e w' ⟨rfl, ⟨nd, rfl⟩⟩; refine ⟨_, rfl, ?_⟩))
    go_ret2
    exact ⟨by first | rfl | (simp [errW_none, errW_some] <;> rfl) | (simp [*, errW_none, errW_some] <;> rfl), by repeat (first | (with_reducible first | exact HB.out | apply below_alloc | apply pw_below_drewN | apply below_drew1) | exact HB.out)⟩

end Go.Proofs.Ytdbeochifofdoaa.X
end

section
-- Written by a program of this session (wip/hook.py, which runs the kit's print.py with contracts proved by hand). Not trusted: Lean checks it.
namespace Go.Proofs.Ytdbeochifofdoaa.X
open Go.RowKit Go.Proofs.YtdbeochifofdoaaW.PrintWords Go.Proofs.YtdbeochifofdoaaW.PrintLast Go.Proofs.YtdbeochifofdoaaW.PrintMore
attribute [local go_sem] max2_int min2_int max_two min_two max_three min_three max_four min_four   -- for this text's walks alone
set_option linter.unusedVariables false
set_option linter.unusedSimpArgs false

/-! ### verditerref06_CanTell: function 22 -/
def verditerref06_CanTell.f (a0 : Int) (a1 : Int) : Option (Bool × Int) := (verditerref06_numbered.f a0 a1).bind fun t304 => (if t304 = 0 then ((verditerref06_can.f a0 a1).bind fun t305 => (some (t305, 0))) else (some (false, t304)))
set_option maxHeartbeats 8000000 in
set_option maxRecDepth 100000 in
theorem verditerref06_CanTell.calls (a0 : Int) (a1 : Int) (r1 : Bool) (r2 : Int) (w : World) (h : verditerref06_CanTell.f a0 a1 = some (r1, r2)) :
    Calls Try.prog 22 #[.int .i64 a0, .int .i64 a1] w fun e w' => e = .returned (.tuple #[.bool r1, .int .i64 r2]) ∧ Below w.heap.size w w' := by
  have HB := Aside0.mk (Below.refl w.heap.size w)
  have H : ((verditerref06_numbered.f a0 a1).bind fun t304 => (if t304 = 0 then ((verditerref06_can.f a0 a1).bind fun t305 => (some (t305, 0))) else (some (false, t304)))) = some (r1, r2) := h
  clear h
  replace H := Option.bind_eq_some_iff.mp H
  obtain ⟨t304, A30, H⟩ := H
  replace H : (if t304 = 0 then ((verditerref06_can.f a0 a1).bind fun t305 => (some (t305, 0))) else (some (false, t304))) = some (r1, r2) := H
  have A3 := Aside0.mk A30
  clear A30
  by_cases c4 : t304 = 0
  · rw [if_pos c4] at H
    have c4b0 : (t304 == 0) = true := beq_iff_eq.mpr c4
    have c4b1 : (t304 != 0) = false := bne_eq_false_iff_eq.mpr c4
    clear c4
    replace H := Option.bind_eq_some_iff.mp H
    obtain ⟨t305, A50, H⟩ := H
    replace H : (some (t305, 0)) = some (r1, r2) := H
    have A5 := Aside0.mk A50
    clear A50
    simp only [Option.some.injEq, Prod.mk.injEq] at H
    obtain ⟨rfl, rfl⟩ := H
    go_enter Try.func22, Try.ntmps22
    go_wp2_with (first | ((with_reducible refine gate_callee (f := 47) rfl ?_); refine goesL_ (some 9) rfl rfl Try.func47 (by kernel_rfl) rfl #[.int .i64 a0, .int .i64 a1] rfl (by (try simp only [List.map_toArray, List.map_cons, List.map_nil]); first | done | rfl | (simp only [List.length_drop, List.length_take]; rfl)) ?_; (with_reducible refine (verditerref06_numbered.calls a0 a1 t304 _ A3.out).mono ?_); rintro e w' ⟨rfl, ⟨nd, rfl⟩⟩; refine ⟨_, rfl, ?_⟩) | ((with_reducible refine gate_callee (f := 48) rfl ?_); refine goesL_ (some 15) rfl rfl Try.func48 (by kernel_rfl) rfl #[.int .i64 a0, .int .i64 a1] rfl (by (try simp only [List.map_toArray, List.map_cons, List.map_nil]); first | done | rfl | (simp only [List.length_drop, List.length_take]; rfl)) ?_; (with_reducible refine (verditerref06_can.calls a0 a1 t305 _ A5.out).mono ?_); rintro e w6 ⟨rfl, hb⟩; refine ⟨_, rfl, ?_⟩; have n0_ := Aside0.mk (below_step (by repeat (first | (with_reducible first | exact HB.out | apply below_alloc | apply pw_below_drewN | apply below_drew1) | exact HB.out)) hb); clear HB; have HB := n0_; clear n0_; (try clear hb); (try clear hb2); (try clear hk); (try clear hi)))
    go_ret2
    exact ⟨by first | rfl | (simp [errW_none, errW_some] <;> rfl) | (simp [*, errW_none, errW_some] <;> rfl), by repeat (first | (with_reducible first | exact HB.out | apply below_alloc | apply pw_below_drewN | apply below_drew1) | exact HB.out)⟩
  · rw [if_neg c4] at H
    have c4b0 : (t304 == 0) = false := beq_eq_false_iff_ne.mpr c4
    have c4b1 : (t304 != 0) = true := bne_iff_ne.mpr c4
    simp only [Option.some.injEq, Prod.mk.injEq] at H
    obtain ⟨rfl, rfl⟩ := H
    go_enter Try.func22, Try.ntmps22
    go_wp2_with (first | ((with_reducible refine gate_callee (f := 47) rfl ?_); refine goesL_ (some 9) rfl rfl Try.func47 (by kernel_rfl) rfl #[.int .i64 a0, .int .i64 a1] rfl (by (try simp only [List.map_toArray, List.map_cons, List.map_nil]); first | done | rfl | (simp only [List.length_drop, List.length_take]; rfl)) ?_; (with_reducible refine (verditerref06_numbered.calls a0 a1 t304 _ A3.out).mono ?_); rintro e w' ⟨rfl, ⟨nd, rfl⟩⟩; refine ⟨_, rfl, ?_⟩))
    go_ret2
    exact ⟨by first | rfl | (simp [errW_none, errW_some] <;> rfl) | (simp [*, errW_none, errW_some] <;> rfl), by repeat (first | (with_reducible first | exact HB.out | apply below_alloc | apply pw_below_drewN | apply below_drew1) | exact HB.out)⟩

/-! ### weigh_CanTell: function 24 -/
def weigh_CanTell.f (a0 : Int) (a1 : Int) : Option (Bool × Int) := (weigh_counted.f a0 a1).bind fun t306 => (if t306 = 0 then ((weigh_search.f a0 a1).bind fun bt307 => (some (bt307.2, 0))) else (some (false, t306)))
set_option maxHeartbeats 8000000 in
set_option maxRecDepth 100000 in
theorem weigh_CanTell.calls (a0 : Int) (a1 : Int) (r1 : Bool) (r2 : Int) (w : World) (h : weigh_CanTell.f a0 a1 = some (r1, r2)) :
    Calls Try.prog 24 #[.int .i64 a0, .int .i64 a1] w fun e w' => e = .returned (.tuple #[.bool r1, .int .i64 r2]) ∧ Below w.heap.size w w' := by
  have HB := Aside0.mk (Below.refl w.heap.size w)
  have H : ((weigh_counted.f a0 a1).bind fun t306 => (if t306 = 0 then ((weigh_search.f a0 a1).bind fun bt307 => (some (bt307.2, 0))) else (some (false, t306)))) = some (r1, r2) := h
  clear h
  replace H := Option.bind_eq_some_iff.mp H
  obtain ⟨t306, A30, H⟩ := H
  replace H : (if t306 = 0 then ((weigh_search.f a0 a1).bind fun bt307 => (some (bt307.2, 0))) else (some (false, t306))) = some (r1, r2) := H
  have A3 := Aside0.mk A30
  clear A30
  by_cases c4 : t306 = 0
  · rw [if_pos c4] at H
    have c4b0 : (t306 == 0) = true := beq_iff_eq.mpr c4
    have c4b1 : (t306 != 0) = false := bne_eq_false_iff_eq.mpr c4
    clear c4
    replace H := Option.bind_eq_some_iff.mp H
    obtain ⟨⟨t307, t308⟩, A50, H⟩ := H
    replace H : (some (t308, 0)) = some (r1, r2) := H
    have A5 := Aside0.mk A50
    clear A50
    simp only [Option.some.injEq, Prod.mk.injEq] at H
    obtain ⟨rfl, rfl⟩ := H
    go_enter Try.func24, Try.ntmps24
    go_wp2_with (first | ((with_reducible refine gate_callee (f := 49) rfl ?_); refine goesL_ (some 11) rfl rfl Try.func49 (by kernel_rfl) rfl #[.int .i64 a0, .int .i64 a1] rfl (by (try simp only [List.map_toArray, List.map_cons, List.map_nil]); first | done | rfl | (simp only [List.length_drop, List.length_take]; rfl)) ?_; (with_reducible refine (weigh_counted.calls a0 a1 t306 _ A3.out).mono ?_); rintro e w' ⟨rfl, ⟨nd, rfl⟩⟩; refine ⟨_, rfl, ?_⟩) | ((with_reducible refine gate_callee (f := 50) rfl ?_); refine goesL_ (some 18) rfl rfl Try.func50 (by kernel_rfl) rfl #[.int .i64 a0, .int .i64 a1] rfl (by (try simp only [List.map_toArray, List.map_cons, List.map_nil]); first | done | rfl | (simp only [List.length_drop, List.length_take]; rfl)) ?_; (with_reducible refine (weigh_search.calls a0 a1 t307 t308 _ A5.out).mono ?_); rintro e w6 ⟨v309, rfl, ho0, hb⟩; refine ⟨_, rfl, ?_⟩; have n0_ := Aside0.mk (Kd.R_lower ho0 (below_size (by repeat (first | (with_reducible first | exact HB.out | apply below_alloc | apply pw_below_drewN | apply below_drew1) | exact HB.out)))); have n1_ := Aside0.mk (below_step (by repeat (first | (with_reducible first | exact HB.out | apply below_alloc | apply pw_below_drewN | apply below_drew1) | exact HB.out)) hb); clear HB; have HO310 := n0_; have HB := n1_; clear n0_ n1_; (try clear hb); (try clear hb2); (try clear hk); (try clear hi); (try clear ho0)))
    go_ret2
    exact ⟨by first | rfl | (simp [errW_none, errW_some] <;> rfl) | (simp [*, errW_none, errW_some] <;> rfl), by repeat (first | (with_reducible first | exact HB.out | apply below_alloc | apply pw_below_drewN | apply below_drew1) | exact HB.out)⟩
  · rw [if_neg c4] at H
    have c4b0 : (t306 == 0) = false := beq_eq_false_iff_ne.mpr c4
    have c4b1 : (t306 != 0) = true := bne_iff_ne.mpr c4
    simp only [Option.some.injEq, Prod.mk.injEq] at H
    obtain ⟨rfl, rfl⟩ := H
    go_enter Try.func24, Try.ntmps24
    go_wp2_with (first | ((with_reducible refine gate_callee (f := 49) rfl ?_); refine goesL_ (some 11) rfl rfl Try.func49 (by kernel_rfl) rfl #[.int .i64 a0, .int .i64 a1] rfl (by (try simp only [List.map_toArray, List.map_cons, List.map_nil]); first | done | rfl | (simp only [List.length_drop, List.length_take]; rfl)) ?_; (with_reducible refine (weigh_counted.calls a0 a1 t306 _ A3.out).mono ?_); rintro e w' ⟨rfl, ⟨nd, rfl⟩⟩; refine ⟨_, rfl, ?_⟩))
    go_ret2
    exact ⟨by first | rfl | (simp [errW_none, errW_some] <;> rfl) | (simp [*, errW_none, errW_some] <;> rfl), by repeat (first | (with_reducible first | exact HB.out | apply below_alloc | apply pw_below_drewN | apply below_drew1) | exact HB.out)⟩

end Go.Proofs.Ytdbeochifofdoaa.X
end

section
/-! The plain facts of how many lots can be told, by the program's search and by the document's. -/
namespace Go.Proofs.Ytdbeochifofdoaa.X
open Go.RowKit Go.Proofs.YtdbeochifofdoaaW.PrintWords
set_option linter.unusedSimpArgs false
set_option linter.unusedVariables false
set_option maxRecDepth 100000 in
theorem known_true : verditerlaw06_known.f 20 = some true := by decide +kernel
theorem search_2 (w n : Nat) (hw : w < 4) (h1 : 1 ≤ n) (h2 : n ≤ 13) : weigh_search.f n w = some ((searchR n w).1, tblM w n) := by
  unfold weigh_search.f
  rw [if_pos ⟨⟨by omega, by omega⟩, by omega, by omega⟩]
  rw [show ((w : Nat) : Int).toNat = w from rfl]
  have h := tblA w hw (n - 1) (by omega)
  rw [show n - 1 + 1 = n by omega] at h
  rw [← h]
  unfold searchR
  cases searchA (n : Int) w <;> rfl
theorem can_2 (w n : Nat) (hw : w < 4) (h1 : 1 ≤ n) (h2 : n ≤ 13) : verditerref06_can.f n w = some (tblM w n) := by
  unfold verditerref06_can.f verditerref06_marks.f verditerref06_some.f
  have h := tblS w hw (n - 1) (by omega)
  rw [show n - 1 + 1 = n by omega] at h
  simp only [Option.bind_some]
  rw [if_pos (by omega), h]
  rfl
theorem within_is (a lo hi : Int) : weigh_within.f a lo hi = some (decide (lo ≤ a ∧ a ≤ hi)) := by
  unfold weigh_within.f
  by_cases h : a ≥ lo
  · rw [if_pos h]; simp [show lo ≤ a from h]
  · rw [if_neg h]; simp [show ¬ lo ≤ a from h]
theorem rwithin_is (a lo hi : Int) : verditerref06_within.f a lo hi = some (decide (lo ≤ a ∧ a ≤ hi)) := by
  unfold verditerref06_within.f
  by_cases h : a ≥ lo
  · rw [if_pos h]; simp [show lo ≤ a from h]
  · rw [if_neg h]; simp [show ¬ lo ≤ a from h]
theorem counted_in {a b : Int} (h : (1 ≤ a ∧ a ≤ 13) ∧ 0 ≤ b ∧ b ≤ 3) : weigh_counted.f a b = some 0 := by
  unfold weigh_counted.f
  simp [within_is, h]
theorem counted_out {a b : Int} (h : ¬ ((1 ≤ a ∧ a ≤ 13) ∧ 0 ≤ b ∧ b ≤ 3)) : weigh_counted.f a b = some 1 := by
  unfold weigh_counted.f
  simp only [within_is, Option.bind_some, decide_eq_true_eq]
  by_cases h1 : 1 ≤ a ∧ a ≤ 13
  · rw [if_pos h1, if_neg (fun h2 => h ⟨h1, h2⟩)]
  · rw [if_neg h1]
theorem numbered_in {a b : Int} (h : (1 ≤ a ∧ a ≤ 13) ∧ 0 ≤ b ∧ b ≤ 3) : verditerref06_numbered.f a b = some 0 := by
  unfold verditerref06_numbered.f
  simp [rwithin_is, h]
theorem numbered_out {a b : Int} (h : ¬ ((1 ≤ a ∧ a ≤ 13) ∧ 0 ≤ b ∧ b ≤ 3)) : verditerref06_numbered.f a b = some 1 := by
  unfold verditerref06_numbered.f
  simp only [rwithin_is, Option.bind_some, decide_eq_true_eq]
  by_cases h1 : 1 ≤ a ∧ a ≤ 13
  · rw [if_pos h1, if_neg (fun h2 => h ⟨h1, h2⟩)]
  · rw [if_neg h1]
/-- The greatest number, n at most. -/
def topM (w : Nat) : Nat → Nat
  | 0 => 0
  | n + 1 => if tblM w (n + 1) then n + 1 else topM w n
theorem topM_ge : ∀ w, w < 4 → ∀ i, i < 13 → tblM w (i + 1) = true → i + 1 ≤ topM w 13 := by decide
theorem most_l0 (w : Nat) (hw : w < 4) : ∀ n k, n ≤ 13 → n < k → weigh_Most.l0 k w n = some (((topM w n : Nat) : Int), 0)
  | 0, k + 1, _, _ => by simp [weigh_Most.l0, topM]
  | n + 1, k + 1, h, hk => by
    unfold weigh_Most.l0
    rw [if_pos (by omega), search_2 w (n + 1) hw (by omega) h]
    simp only [Option.bind_some]
    unfold topM
    cases ht : tblM w (n + 1) with
    | true => simp
    | false =>
      simp only [Bool.false_eq_true, if_false]
      rw [show wrap64 (((n + 1 : Nat) : Int) - 1) = (n : Int) by unfold wrap64; omega]
      exact most_l0 w hw n k (by omega) (by omega)
theorem rmost_l0 (w : Nat) (hw : w < 4) : ∀ n k, n ≤ 13 → n < k → verditerref06_Most.l0 k w n = some (((topM w n : Nat) : Int), 0)
  | 0, k + 1, _, _ => by simp [verditerref06_Most.l0, topM]
  | n + 1, k + 1, h, hk => by
    unfold verditerref06_Most.l0
    rw [if_pos (by omega), can_2 w (n + 1) hw (by omega) h]
    simp only [Option.bind_some]
    unfold topM
    cases ht : tblM w (n + 1) with
    | true => simp
    | false =>
      simp only [Bool.false_eq_true, if_false]
      rw [show wrap64 (((n + 1 : Nat) : Int) - 1) = (n : Int) by unfold wrap64; omega]
      exact rmost_l0 w hw n k (by omega) (by omega)
/-- What both answer to CanTell. -/
def canT (a b : Int) : Bool × Int := if (1 ≤ a ∧ a ≤ 13) ∧ 0 ≤ b ∧ b ≤ 3 then (tblM b.toNat a.toNat, 0) else (false, 1)
theorem canTell_is (a b : Int) : weigh_CanTell.f a b = some (canT a b) := by
  unfold weigh_CanTell.f canT
  by_cases h : (1 ≤ a ∧ a ≤ 13) ∧ 0 ≤ b ∧ b ≤ 3
  · rw [counted_in h, if_pos h]
    obtain ⟨n, rfl⟩ := Int.eq_ofNat_of_zero_le (show 0 ≤ a by omega)
    obtain ⟨w, rfl⟩ := Int.eq_ofNat_of_zero_le h.2.1
    simp only [Option.bind_some, if_true]
    rw [search_2 w n (by omega) (by omega) (by omega)]
    rfl
  · rw [counted_out h, if_neg h]; rfl
theorem rcanTell_is (a b : Int) : verditerref06_CanTell.f a b = some (canT a b) := by
  unfold verditerref06_CanTell.f canT
  by_cases h : (1 ≤ a ∧ a ≤ 13) ∧ 0 ≤ b ∧ b ≤ 3
  · rw [numbered_in h, if_pos h]
    obtain ⟨n, rfl⟩ := Int.eq_ofNat_of_zero_le (show 0 ≤ a by omega)
    obtain ⟨w, rfl⟩ := Int.eq_ofNat_of_zero_le h.2.1
    simp only [Option.bind_some, if_true]
    rw [can_2 w n (by omega) (by omega) (by omega)]
    rfl
  · rw [numbered_out h, if_neg h]; rfl
end Go.Proofs.Ytdbeochifofdoaa.X
end

section
namespace Go.Proofs.Ytdbeochifofdoaa.Pure
open Go.RowKit Go.Proofs.Ytdbeochifofdoaa.X Go.Proofs.YtdbeochifofdoaaW.PrintWords Go.Proofs.YtdbeochifofdoaaW.PrintLast
/-- The first number of weighings that is enough, from w on, d of them tried. -/
def botM (n : Nat) : Nat → Nat → Int × Int
  | 0, _ => (0, 4)
  | d + 1, w => if tblM w n then ((w : Int), 0) else botM n d (w + 1)
theorem least_l0 (n : Nat) (h1 : 1 ≤ n) (h2 : n ≤ 13) : ∀ (d w k : Nat), w + d = 4 → d < k → weigh_Least.l0 k n w = some (botM n d w)
  | 0, w, k + 1, h, _ => by
    unfold weigh_Least.l0
    rw [if_neg (by omega)]; rfl
  | d + 1, w, k + 1, h, hk => by
    unfold weigh_Least.l0
    rw [if_pos (by omega), search_2 w n (by omega) h1 h2]
    simp only [Option.bind_some]
    unfold botM
    cases ht : tblM w n with
    | true => simp
    | false =>
      simp only [Bool.false_eq_true, if_false]
      rw [show wrap64 ((w : Int) + 1) = ((w + 1 : Nat) : Int) by unfold wrap64; omega]
      exact least_l0 n h1 h2 d (w + 1) k (by omega) (by omega)
theorem rleast_l0 (n : Nat) (h1 : 1 ≤ n) (h2 : n ≤ 13) : ∀ (d w k : Nat), w + d = 4 → d < k → verditerref06_Least.l0 k n w = some (botM n d w)
  | 0, w, k + 1, h, _ => by
    unfold verditerref06_Least.l0
    rw [if_neg (by omega)]; rfl
  | d + 1, w, k + 1, h, hk => by
    unfold verditerref06_Least.l0
    rw [if_pos (by omega), can_2 w n (by omega) h1 h2]
    simp only [Option.bind_some]
    unfold botM
    cases ht : tblM w n with
    | true => simp
    | false =>
      simp only [Bool.false_eq_true, if_false]
      rw [show wrap64 ((w : Int) + 1) = ((w + 1 : Nat) : Int) by unfold wrap64; omega]
      exact rleast_l0 n h1 h2 d (w + 1) k (by omega) (by omega)
theorem WeighLeast : verditerlaw06_WeighLeast.Pure := by
  intro a _
  refine ⟨20, ?_⟩
  unfold verditerlaw06_WeighLeast.f
  by_cases h : 1 ≤ a ∧ a ≤ 13
  · obtain ⟨n, rfl⟩ := Int.eq_ofNat_of_zero_le (show 0 ≤ a by omega)
    have hm : weigh_Least.f 20 (n : Int) = some (botM n 4 0) := by
      unfold weigh_Least.f
      rw [counted_in ⟨h, by decide, by decide⟩]
      exact least_l0 n (by omega) (by omega) 4 0 20 (by decide) (by decide)
    have hr : verditerref06_Least.f 20 (n : Int) = some (botM n 4 0) := by
      unfold verditerref06_Least.f
      rw [numbered_in ⟨h, by decide, by decide⟩]
      exact rleast_l0 n (by omega) (by omega) 4 0 20 (by decide) (by decide)
    rw [hm, hr]
    simp [known_true]
  · have hm : weigh_Least.f 20 a = some (0, 1) := by
      unfold weigh_Least.f
      rw [counted_out (fun h2 => h h2.1)]
      rfl
    have hr : verditerref06_Least.f 20 a = some (0, 1) := by
      unfold verditerref06_Least.f
      rw [numbered_out (fun h2 => h h2.1)]
      rfl
    rw [hm, hr]
    simp [known_true]
end Go.Proofs.Ytdbeochifofdoaa.Pure
end

section
-- PRINTED by print.py: the row of the law verditerlaw06_WeighLeast, out of its Pure (the session's) and the printed walk. Not trusted: Lean checks it.
namespace Go.Proofs.Ytdbeochifofdoaa.weighLeast
open Go.ChangeShapes Go.WideShapes Go.ChangeAt Go.RowKit
open Go.ChangeMaps (open_string shut_string)
set_option linter.unusedVariables false
theorem own : ownKnob Try.prog.godebug = none := by kernel_rfl
set_option maxRecDepth 100000 in
theorem lifted (os : Os) (started : os.Started) (H : Type) (enc : TypeId × Value → H) :
    ReturnsInHanded {} Try.checked os 6 .any (Rows.weighLeastSpec.pre6 enc Try.prog Try.f6 Rows.weighLeastRow.domain false) (Rows.weighLeastSpec.post enc Try.prog Try.f6 false true false false) := by
  refine returnsInHanded_of_change_sized (C := Try.checked) own started (by kernel_rfl) Try.func6
    (ChangeSpec.witness6 (enc := enc) (C := Try.checked) false ⟨#[], #[.int .i64 0], []⟩ 8 (by kernel_rfl) (by kernel_rfl) (by kernel_rfl) (by kernel_rfl)) ?_
  intro W base args ds gs before hval0 hW hcnd hsz0 _
  have hsz : (DataW.weightsEach Try.prog (Try.f6.params.toList ++ Rows.weighLeastSpec.plain.varTypes Try.prog) (ds ++ gs)).all (· ≤ reachBytes) = true := hsz0
  have hval : ∀ (j : Nat) t v, Try.f6.params[j]? = some t → args[j]? = some v → Value.okWide Try.prog W .any base t v := hval0
  have hW' := hW
  obtain ⟨p, q, hA0, hV, rfl, hfz, hnd⟩ := hW
  have hA : DataW.TrodAll enc Try.prog W 0 (fun _ => true) true Try.f6.params.toList args.toList ds p := hA0
  rw [Try.params6] at hA hval hsz
  obtain ⟨v0, vs0, d0, ds0, p0, q0, hargs, rfl, rfl, h0, r0⟩ := trodAll_cons hA
  obtain ⟨rfl, rfl, rfl⟩ := trodAll_nil r0
  obtain rfl : args = #[v0] := by cases args; simp_all
  obtain ⟨rfl, rfl⟩ := trodVars_none hV
  obtain ⟨a0, rfl, rfl, rfl, w0⟩ := open_int Try.underlying3 (hval 0 3 v0 rfl rfl) h0
  clear hA0 hval0 hsz0 hsz
  refine (X.verditerlaw06_WeighLeast.walk Pure.WeighLeast a0 W w0).mono fun e W' ⟨he, bel⟩ => ?_
  subst he
  exact ⟨_, rfl, _, _, _, [], _, [], hW', trodAll_mk1 (shut_bool Try.underlying4 _), (trodAll_cons_mk (shut_int Try.underlying3 w0) trodAll_mk0), rfl, bel.frame _, fun h => by cases h⟩
theorem over : Rows.weighLeastRow.holds Try.pinned (OpenSpec.ofChange Rows.weighLeastSpec) :=
  OpenClaim.holds_of_wide 6 Try.f6 rfl rfl rfl rfl rfl rfl rfl ⟨rfl, rfl, rfl, rfl, rfl⟩ rfl rfl rfl rfl rfl (by kernel_rfl) Try.func6 (by kernel_rfl)
    (of_decide_eq_true (by kernel_rfl)) (by unfold Func.isWrapper; first | (rw [if_pos (by decide +kernel)]; kernel_rfl) | (rw [if_neg (by decide +kernel)]; exact ⟨rfl, rfl⟩))
    (fun os started H enc _ => lifted os started H enc)
theorem proved : Rows.WeighLeastSaid := over
end Go.Proofs.Ytdbeochifofdoaa.weighLeast
namespace Go.Proofs.Ytdbeochifofdoaa
/-- The row, under a short name, for the claim. -/
theorem weighLeast_holds : Rows.WeighLeastSaid := weighLeast.proved
end Go.Proofs.Ytdbeochifofdoaa
end
