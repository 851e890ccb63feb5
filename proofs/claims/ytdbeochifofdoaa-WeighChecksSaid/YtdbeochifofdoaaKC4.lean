/- The law WeighChecks of the given program: which two cases prove that a plan does not tell.
Its conditions: none beyond the statement's own. Part 5 of 6 of the proof. -/
import Derived.Test.YtdbeochifofdoaaKC3
section
-- Written by a program of this session (wip/hook.py, which runs the kit's print.py with contracts proved by hand). Not trusted: Lean checks it.
namespace Go.Proofs.Ytdbeochifofdoaa.X
open Go.RowKit Go.Proofs.YtdbeochifofdoaaW.PrintWords Go.Proofs.YtdbeochifofdoaaW.PrintLast Go.Proofs.YtdbeochifofdoaaW.PrintMore
attribute [local go_sem] max2_int min2_int max_two min_two max_three min_three max_four min_four   -- for this text's walks alone
set_option linter.unusedVariables false
set_option linter.unusedSimpArgs false

attribute [local go_sem high] eqA35 eqA70
/-! ### weigh_CheckBad: function 61 -/
def weigh_CheckBad.f (a0 : Int) (l1 : List (S53)) (a2_0 : Int) (a2_1 : Int) (a3_0 : Int) (a3_1 : Int) : Option (Int) := (weigh_cased.f a0 l1 (([(⟨a2_0, a2_1⟩ : S35), (⟨a3_0, a3_1⟩ : S35)] : List (S35)))).bind fun t420 => (if t420 = 0 then ((weigh_marks.f a0 l1).bind fun t421 => (if 0 ≤ a2_0 then (if a2_0 < (t421.length : Int) then ((weigh_mark_times.f ((rd_T70 t421 a2_0).f0) ((rd_T70 t421 a2_0).f1) ((rd_T70 t421 a2_0).f2) a2_1).bind fun bt425 => (if (a2_0 == a3_0 && (a2_1 == a3_1)) = true then (if (bt425.1 == 0 && (bt425.2.1 == 0 && (bt425.2.2 == 0))) = true then (some 0) else (if (!(a2_0 == a3_0) || (!(a2_1 == a3_1))) = true then (if 0 ≤ a3_0 then (if a3_0 < (t421.length : Int) then ((weigh_mark_times.f ((rd_T70 t421 a3_0).f0) ((rd_T70 t421 a3_0).f1) ((rd_T70 t421 a3_0).f2) a3_1).bind fun bt430 => (if (bt425.1 == bt430.1 && (bt425.2.1 == bt430.2.1 && (bt425.2.2 == bt430.2.2))) = true then (some 0) else (some 7))) else (none)) else (none)) else (some 7))) else (if (!(a2_0 == a3_0) || (!(a2_1 == a3_1))) = true then (if 0 ≤ a3_0 then (if a3_0 < (t421.length : Int) then ((weigh_mark_times.f ((rd_T70 t421 a3_0).f0) ((rd_T70 t421 a3_0).f1) ((rd_T70 t421 a3_0).f2) a3_1).bind fun bt434 => (if (bt425.1 == bt434.1 && (bt425.2.1 == bt434.2.1 && (bt425.2.2 == bt434.2.2))) = true then (some 0) else (some 7))) else (none)) else (none)) else (some 7)))) else (none)) else (none))) else (some t420))
def weigh_CheckBad.T5 : Bool × List (List Nat × List Nat) := (true, [([], []), ([], []), ([1], [1]), ([0, 2], [0, 2]), ([3], [3]), ([], []), ([5], [5]), ([4, 6], [4, 6]), ([], []), ([8, 7, 7, 0, 1, 2, 3, 4, 5, 6, 7, 8], [7, 8])])
def weigh_CheckBad.B5 : List Nat := [0, 0, 2, 7, 15, 0, 32, 127, 0, 511]
theorem weigh_CheckBad.tab5 : rtab .any (opsOf Try.f61 5) = weigh_CheckBad.T5 := by kernel_rfl
theorem weigh_CheckBad.bits5 : waitsOk weigh_CheckBad.T5.2 weigh_CheckBad.B5 = true := by kernel_rfl
def weigh_CheckBad.T6 : Bool × List (List Nat × List Nat) := (true, [([], []), ([], []), ([0, 1], [0, 1]), ([2], [2]), ([3], [3]), ([3], [3]), ([4, 5, 3], [3, 4, 5]), ([3, 6], [3, 6]), ([7, 3], [7]), ([8], [8]), ([8], [8]), ([9, 10, 8], [8, 9, 10]), ([11, 8, 8], [8, 11]), ([12], [12]), ([12], [12]), ([12], [12]), ([15, 12], [12, 15]), ([14, 16, 12], [12, 14, 16]), ([17, 12], [12, 17]), ([12], [12]), ([19, 12], [12, 19]), ([18, 20, 12, 12], [12, 18, 20]), ([13, 21, 12], [12, 13, 21]), ([12, 22, 8], [8, 12, 22]), ([8, 23], [8, 23])])
def weigh_CheckBad.B6 : List Nat := [0, 0, 3, 7, 15, 15, 63, 127, 255, 511, 511, 2047, 4095, 8191, 8191, 8191, 40959, 122879, 253951, 8191, 532479, 2088959, 4194303, 8388607, 16777215]
theorem weigh_CheckBad.tab6 : rtab .any (opsOf Try.f61 6) = weigh_CheckBad.T6 := by kernel_rfl
theorem weigh_CheckBad.bits6 : waitsOk weigh_CheckBad.T6.2 weigh_CheckBad.B6 = true := by kernel_rfl
set_option maxHeartbeats 8000000 in
set_option maxRecDepth 100000 in
theorem weigh_CheckBad.calls (a0 : Int) (A1 : Option Addr) (c1 : Nat) (l1 : List (S53)) (a2_0 : Int) (a2_1 : Int) (a3_0 : Int) (a3_1 : Int) (r : Int) (w : World) (hr1 : Kd.C k53 w A1 l1.length l1) (hc1 : l1.length ≤ c1) (h : weigh_CheckBad.f a0 l1 a2_0 a2_1 a3_0 a3_1 = some r) :
    Calls Try.prog 61 #[.int .i64 a0, .slice A1 l1.length c1, .agg #[.int .i64 a2_0, .int .i64 a2_1], .agg #[.int .i64 a3_0, .int .i64 a3_1]] w fun e w' => e = .returned (.int .i64 r) ∧ Below w.heap.size w w' := by
  have hu35 := Try.underlying35
  have hu70 := Try.underlying70
  have HR1 := Aside0.mk hr1
  have HC1 := Aside0.mk hc1
  clear hr1 hc1
  have HB := Aside0.mk (Below.refl w.heap.size w)
  have H : ((weigh_cased.f a0 l1 (([(⟨a2_0, a2_1⟩ : S35), (⟨a3_0, a3_1⟩ : S35)] : List (S35)))).bind fun t420 => (if t420 = 0 then ((weigh_marks.f a0 l1).bind fun t421 => (if 0 ≤ a2_0 then (if a2_0 < (t421.length : Int) then ((weigh_mark_times.f ((rd_T70 t421 a2_0).f0) ((rd_T70 t421 a2_0).f1) ((rd_T70 t421 a2_0).f2) a2_1).bind fun bt425 => (if (a2_0 == a3_0 && (a2_1 == a3_1)) = true then (if (bt425.1 == 0 && (bt425.2.1 == 0 && (bt425.2.2 == 0))) = true then (some 0) else (if (!(a2_0 == a3_0) || (!(a2_1 == a3_1))) = true then (if 0 ≤ a3_0 then (if a3_0 < (t421.length : Int) then ((weigh_mark_times.f ((rd_T70 t421 a3_0).f0) ((rd_T70 t421 a3_0).f1) ((rd_T70 t421 a3_0).f2) a3_1).bind fun bt430 => (if (bt425.1 == bt430.1 && (bt425.2.1 == bt430.2.1 && (bt425.2.2 == bt430.2.2))) = true then (some 0) else (some 7))) else (none)) else (none)) else (some 7))) else (if (!(a2_0 == a3_0) || (!(a2_1 == a3_1))) = true then (if 0 ≤ a3_0 then (if a3_0 < (t421.length : Int) then ((weigh_mark_times.f ((rd_T70 t421 a3_0).f0) ((rd_T70 t421 a3_0).f1) ((rd_T70 t421 a3_0).f2) a3_1).bind fun bt434 => (if (bt425.1 == bt434.1 && (bt425.2.1 == bt434.2.1 && (bt425.2.2 == bt434.2.2))) = true then (some 0) else (some 7))) else (none)) else (none)) else (some 7)))) else (none)) else (none))) else (some t420))) = some r := h
  clear h
  obtain ⟨y417, hy417⟩ : ∃ y_ : List (S35), y_ = (([(⟨a2_0, a2_1⟩ : S35), (⟨a3_0, a3_1⟩ : S35)] : List (S35))) := ⟨_, rfl⟩
  replace H : ((weigh_cased.f a0 l1 y417).bind fun t420 => (if t420 = 0 then ((weigh_marks.f a0 l1).bind fun t421 => (if 0 ≤ a2_0 then (if a2_0 < (t421.length : Int) then ((weigh_mark_times.f ((rd_T70 t421 a2_0).f0) ((rd_T70 t421 a2_0).f1) ((rd_T70 t421 a2_0).f2) a2_1).bind fun bt425 => (if (a2_0 == a3_0 && (a2_1 == a3_1)) = true then (if (bt425.1 == 0 && (bt425.2.1 == 0 && (bt425.2.2 == 0))) = true then (some 0) else (if (!(a2_0 == a3_0) || (!(a2_1 == a3_1))) = true then (if 0 ≤ a3_0 then (if a3_0 < (t421.length : Int) then ((weigh_mark_times.f ((rd_T70 t421 a3_0).f0) ((rd_T70 t421 a3_0).f1) ((rd_T70 t421 a3_0).f2) a3_1).bind fun bt430 => (if (bt425.1 == bt430.1 && (bt425.2.1 == bt430.2.1 && (bt425.2.2 == bt430.2.2))) = true then (some 0) else (some 7))) else (none)) else (none)) else (some 7))) else (if (!(a2_0 == a3_0) || (!(a2_1 == a3_1))) = true then (if 0 ≤ a3_0 then (if a3_0 < (t421.length : Int) then ((weigh_mark_times.f ((rd_T70 t421 a3_0).f0) ((rd_T70 t421 a3_0).f1) ((rd_T70 t421 a3_0).f2) a3_1).bind fun bt434 => (if (bt425.1 == bt434.1 && (bt425.2.1 == bt434.2.1 && (bt425.2.2 == bt434.2.2))) = true then (some 0) else (some 7))) else (none)) else (none)) else (some 7)))) else (none)) else (none))) else (some t420))) = some r := by first | (rw [hy417]; with_reducible exact H) | (have H2_ := (Option.bind_some _ _).symm.trans H; rw [hy417]; with_reducible exact H2_) | (have H2_ := (Option.bind_some _ _).symm.trans H; with_reducible exact H2_) | with_reducible exact H | (rw [hy417]; exact H) | exact H
  have Ny417 := Aside0.mk hy417
  clear hy417
  replace H := Option.bind_eq_some_iff.mp H
  obtain ⟨t420, A50, H⟩ := H
  replace H : (if t420 = 0 then ((weigh_marks.f a0 l1).bind fun t421 => (if 0 ≤ a2_0 then (if a2_0 < (t421.length : Int) then ((weigh_mark_times.f ((rd_T70 t421 a2_0).f0) ((rd_T70 t421 a2_0).f1) ((rd_T70 t421 a2_0).f2) a2_1).bind fun bt425 => (if (a2_0 == a3_0 && (a2_1 == a3_1)) = true then (if (bt425.1 == 0 && (bt425.2.1 == 0 && (bt425.2.2 == 0))) = true then (some 0) else (if (!(a2_0 == a3_0) || (!(a2_1 == a3_1))) = true then (if 0 ≤ a3_0 then (if a3_0 < (t421.length : Int) then ((weigh_mark_times.f ((rd_T70 t421 a3_0).f0) ((rd_T70 t421 a3_0).f1) ((rd_T70 t421 a3_0).f2) a3_1).bind fun bt430 => (if (bt425.1 == bt430.1 && (bt425.2.1 == bt430.2.1 && (bt425.2.2 == bt430.2.2))) = true then (some 0) else (some 7))) else (none)) else (none)) else (some 7))) else (if (!(a2_0 == a3_0) || (!(a2_1 == a3_1))) = true then (if 0 ≤ a3_0 then (if a3_0 < (t421.length : Int) then ((weigh_mark_times.f ((rd_T70 t421 a3_0).f0) ((rd_T70 t421 a3_0).f1) ((rd_T70 t421 a3_0).f2) a3_1).bind fun bt434 => (if (bt425.1 == bt434.1 && (bt425.2.1 == bt434.2.1 && (bt425.2.2 == bt434.2.2))) = true then (some 0) else (some 7))) else (none)) else (none)) else (some 7)))) else (none)) else (none))) else (some t420)) = some r := H
  have A5 := Aside0.mk A50
  clear A50
  by_cases c6 : t420 = 0
  · rw [if_pos c6] at H
    have c6b0 : (t420 == 0) = true := beq_iff_eq.mpr c6
    have c6b1 : (t420 != 0) = false := bne_eq_false_iff_eq.mpr c6
    clear c6
    replace H := Option.bind_eq_some_iff.mp H
    obtain ⟨t421, A70, H⟩ := H
    replace H : (if 0 ≤ a2_0 then (if a2_0 < (t421.length : Int) then ((weigh_mark_times.f ((rd_T70 t421 a2_0).f0) ((rd_T70 t421 a2_0).f1) ((rd_T70 t421 a2_0).f2) a2_1).bind fun bt425 => (if (a2_0 == a3_0 && (a2_1 == a3_1)) = true then (if (bt425.1 == 0 && (bt425.2.1 == 0 && (bt425.2.2 == 0))) = true then (some 0) else (if (!(a2_0 == a3_0) || (!(a2_1 == a3_1))) = true then (if 0 ≤ a3_0 then (if a3_0 < (t421.length : Int) then ((weigh_mark_times.f ((rd_T70 t421 a3_0).f0) ((rd_T70 t421 a3_0).f1) ((rd_T70 t421 a3_0).f2) a3_1).bind fun bt430 => (if (bt425.1 == bt430.1 && (bt425.2.1 == bt430.2.1 && (bt425.2.2 == bt430.2.2))) = true then (some 0) else (some 7))) else (none)) else (none)) else (some 7))) else (if (!(a2_0 == a3_0) || (!(a2_1 == a3_1))) = true then (if 0 ≤ a3_0 then (if a3_0 < (t421.length : Int) then ((weigh_mark_times.f ((rd_T70 t421 a3_0).f0) ((rd_T70 t421 a3_0).f1) ((rd_T70 t421 a3_0).f2) a3_1).bind fun bt434 => (if (bt425.1 == bt434.1 && (bt425.2.1 == bt434.2.1 && (bt425.2.2 == bt434.2.2))) = true then (some 0) else (some 7))) else (none)) else (none)) else (some 7)))) else (none)) else (none)) = some r := H
    have A7 := Aside0.mk A70
    clear A70
    by_cases c8 : 0 ≤ a2_0
    · rw [if_pos c8] at H
      have c8b0 : decide (0 ≤ a2_0) = true := decide_eq_true c8
      clear c8
      by_cases c9 : a2_0 < (t421.length : Int)
      · rw [if_pos c9] at H
        have c9b0 : decide (a2_0 < (t421.length : Int)) = true := decide_eq_true c9
        clear c9
        replace H := Option.bind_eq_some_iff.mp H
        obtain ⟨⟨t425, t426, t427⟩, A100, H⟩ := H
        replace H : (if (a2_0 == a3_0 && (a2_1 == a3_1)) = true then (if (t425 == 0 && (t426 == 0 && (t427 == 0))) = true then (some 0) else (if (!(a2_0 == a3_0) || (!(a2_1 == a3_1))) = true then (if 0 ≤ a3_0 then (if a3_0 < (t421.length : Int) then ((weigh_mark_times.f ((rd_T70 t421 a3_0).f0) ((rd_T70 t421 a3_0).f1) ((rd_T70 t421 a3_0).f2) a3_1).bind fun bt430 => (if (t425 == bt430.1 && (t426 == bt430.2.1 && (t427 == bt430.2.2))) = true then (some 0) else (some 7))) else (none)) else (none)) else (some 7))) else (if (!(a2_0 == a3_0) || (!(a2_1 == a3_1))) = true then (if 0 ≤ a3_0 then (if a3_0 < (t421.length : Int) then ((weigh_mark_times.f ((rd_T70 t421 a3_0).f0) ((rd_T70 t421 a3_0).f1) ((rd_T70 t421 a3_0).f2) a3_1).bind fun bt434 => (if (t425 == bt434.1 && (t426 == bt434.2.1 && (t427 == bt434.2.2))) = true then (some 0) else (some 7))) else (none)) else (none)) else (some 7))) = some r := H
        have A10 := Aside0.mk A100
        clear A100
        go_enter Try.func61, Try.ntmps61
        try go_wp2_with (first | ((with_reducible refine gate_dst (N := 6) rfl ?_); refine box_event ?hg (N := 6) ?hd (cs := #[.int .i64 a2_0, .int .i64 a2_1]) (t := 35) ?hr ?_; (case hd => rfl); (case hg => rfl); (case hr => first | (go_simp; done) | (go_simp; rfl)); intro gb415 hg w13 hbox hb; have n0_ := Aside0.mk (below_step (by repeat (first | (with_reducible first | exact HB.out | apply below_alloc | apply pw_below_drewN | apply below_drew1) | exact HB.out)) hb); have n1_ := Aside0.mk (hbox); have n2_ := Aside0.mk ((by rw [hg]; exact (below_size (by repeat (first | (with_reducible first | exact HB.out | apply below_alloc | apply pw_below_drewN | apply below_drew1) | exact HB.out))) : w.heap.size ≤ gb415)); have n3_ := Aside0.mk ((by rw [hg]; exact (below_size (by repeat (first | (with_reducible first | exact HB.out | apply below_alloc | apply pw_below_drewN | apply below_drew1) | exact HB.out))) : w.heap.size ≤ gb415)); clear HB; have HB := n0_; have BK415 := n1_; have GW415 := n2_; have GE415 := n3_; clear n0_ n1_ n2_ n3_; clear hb hbox hg) | ((with_reducible refine gate_dst (N := 7) rfl ?_); refine box_event ?hg (N := 7) ?hd (cs := #[.int .i64 a3_0, .int .i64 a3_1]) (t := 35) ?hr ?_; (case hd => rfl); (case hg => rfl); (case hr => first | (go_simp; done) | (go_simp; rfl)); intro gb416 hg w14 hbox hb; have n0_ := Aside0.mk (blk_below (g := gb415) (o := .cells #[.int .i64 a2_0, .int .i64 a2_1] 35 (0, 0)) (by (with_reducible repeat (first | refine blk_drewN ?_ _ | refine blk_drew ?_ | refine blk_alloc ?_ _)); exact BK415.out) hb); have n1_ := Aside0.mk (below_step (by repeat (first | (with_reducible first | exact HB.out | apply below_alloc | apply pw_below_drewN | apply below_drew1 | refine below_set ?_ GE415.out) | exact HB.out)) hb); have n2_ := Aside0.mk (hbox); have n3_ := Aside0.mk ((by rw [hg]; exact (below_size (by repeat (first | (with_reducible first | exact HB.out | apply below_alloc | apply pw_below_drewN | apply below_drew1 | refine below_set ?_ GE415.out) | exact HB.out))) : w.heap.size ≤ gb416)); have n4_ := Aside0.mk ((by rw [hg]; exact (below_size (by repeat (first | (with_reducible first | exact HB.out | apply below_alloc | apply pw_below_drewN | apply below_drew1 | refine below_set ?_ GE415.out) | exact HB.out))) : w.heap.size ≤ gb416)); have n5_ := Aside0.mk ((by rw [hg]; exact Nat.ne_of_lt (blk_lt (g := gb415) (o := .cells #[.int .i64 a2_0, .int .i64 a2_1] 35 (0, 0)) (by (with_reducible repeat (first | refine blk_drewN ?_ _ | refine blk_drew ?_ | refine blk_alloc ?_ _)); exact BK415.out)) : gb415 ≠ gb416)); have n6_ := Aside0.mk ((by rw [hg]; exact Nat.ne_of_gt (blk_lt (g := gb415) (o := .cells #[.int .i64 a2_0, .int .i64 a2_1] 35 (0, 0)) (by (with_reducible repeat (first | refine blk_drewN ?_ _ | refine blk_drew ?_ | refine blk_alloc ?_ _)); exact BK415.out)) : gb416 ≠ gb415)); clear BK415; clear HB; have BK415 := n0_; have HB := n1_; have BK416 := n2_; have GW416 := n3_; have GE416 := n4_; have NB415_416 := n5_; have NB416_415 := n6_; clear n0_ n1_ n2_ n3_ n4_ n5_ n6_; clear hb hbox hg; have hnb15 := NB415_416.out; have hnc15 := NB416_415.out; have hcz16_0 : w14.cell? ⟨gb415, 0, none⟩ = some (.int .i64 a2_0) := (blk_cell BK415.out 0).trans rfl; have hcz16_1 : w14.cell? ⟨gb415, 1, none⟩ = some (.int .i64 a2_1) := (blk_cell BK415.out 1).trans rfl; have hfz16_0 := blk_frozen BK415.out 0; have hfz16_1 := blk_frozen BK415.out 1; have hcz17_0 : w14.cell? ⟨gb416, 0, none⟩ = some (.int .i64 a3_0) := (blk_cell BK416.out 0).trans rfl; have hcz17_1 : w14.cell? ⟨gb416, 1, none⟩ = some (.int .i64 a3_1) := (blk_cell BK416.out 1).trans rfl; have hfz17_0 := blk_frozen BK416.out 0; have hfz17_1 := blk_frozen BK416.out 1) | ((with_reducible refine gate_dst (N := 16) rfl ?_); refine Kd.R_lit k35 _ 35 ?hg (N := 16) ?hd (xs := ([(⟨a2_0, a2_1⟩ : S35), (⟨a3_0, a3_1⟩ : S35)] : List (S35))) (inner := [.int .i64 a2_0, .int .i64 a2_1, .int .i64 a3_0, .int .i64 a3_1]) (ok := fun _ => True) (okp := fun _ => True) ?hr ?hp (fun _ hk => hk) trivial (Below.refl _ _) (Nat.le_refl _) (by simp) ?_; (case hd => rfl); (case hg => rfl); (case hr => first | (go_simp; done) | (go_simp; rfl)); (case hp => exact (Reps.c2 (show Kd.M k35 _ _ _ (⟨a2_0, a2_1⟩ : S35) [.int .i64 a2_0, .int .i64 a2_1] from (k35_mkM _ _ _ (⟨a2_0, a2_1⟩ : S35) )) (Reps.c2 (show Kd.M k35 _ _ _ (⟨a3_0, a3_1⟩ : S35) [.int .i64 a3_0, .int .i64 a3_1] from (k35_mkM _ _ _ (⟨a3_0, a3_1⟩ : S35) )) (Reps.none _ _)))); intro v418 w18 ho19 hb hg_ hnew_; clear hg_ hnew_; (first | rw [← Ny417.out] at ho19 | (simp only [Int.reduceToNat] at ho19; rw [← Ny417.out] at ho19)); have n0_ := Aside0.mk (Kd.R_lower (Kd.R_newB (Kd.R_newB ho19 (g := gb415) (o := .cells #[.int .i64 a2_0, .int .i64 a2_1] 35 (0, 0)) (by (with_reducible repeat (first | refine blk_drewN ?_ _ | refine blk_drew ?_ | refine blk_alloc ?_ _)); exact BK415.out)) (g := gb416) (o := .cells #[.int .i64 a3_0, .int .i64 a3_1] 35 (0, 0)) (by (with_reducible repeat (first | refine blk_drewN ?_ _ | refine blk_drew ?_ | refine blk_alloc ?_ _)); exact BK416.out)) (below_size (by repeat (first | (with_reducible first | exact HB.out | apply below_alloc | apply pw_below_drewN | apply below_drew1 | refine below_set ?_ GE415.out | refine below_set ?_ GE416.out) | exact HB.out)))); have n1_ := Aside0.mk (blk_below (g := gb415) (o := .cells #[.int .i64 a2_0, .int .i64 a2_1] 35 (0, 0)) (by (with_reducible repeat (first | refine blk_drewN ?_ _ | refine blk_drew ?_ | refine blk_alloc ?_ _)); exact BK415.out) hb); have n2_ := Aside0.mk (blk_below (g := gb416) (o := .cells #[.int .i64 a3_0, .int .i64 a3_1] 35 (0, 0)) (by (with_reducible repeat (first | refine blk_drewN ?_ _ | refine blk_drew ?_ | refine blk_alloc ?_ _)); exact BK416.out) hb); have n3_ := Aside0.mk (below_step (by repeat (first | (with_reducible first | exact HB.out | apply below_alloc | apply pw_below_drewN | apply below_drew1 | refine below_set ?_ GE415.out | refine below_set ?_ GE416.out) | exact HB.out)) hb); clear BK415; clear BK416; clear HB; have HO419 := n0_; have BK415 := n1_; have BK416 := n2_; have HB := n3_; clear n0_ n1_ n2_ n3_; clear hb ho19; obtain ⟨Ao20, co20, eo20⟩ := Kd.R_slice HO419.out; subst eo20) | ((with_reducible refine gate_callee (f := 95) rfl ?_); refine goesL_ (some 17) rfl rfl Try.func95 (by kernel_rfl) rfl #[.int .i64 a0, .slice A1 l1.length c1, .slice Ao20 y417.length co20] rfl (by (try simp only [List.map_toArray, List.map_cons, List.map_nil]); first | done | rfl | (simp only [List.length_drop, List.length_take]; rfl)) ?_; (with_reducible refine (weigh_cased.calls a0 _ _ l1 _ _ y417 t420 _ ?side1 ?side2 ?side3 ?side4 A5.out).mono ?_); (case side1 => repeat (first | exact (Kd.C_below HR1.out HB.out) | (with_reducible refine Kd.C_alloc ?_ _) | (with_reducible refine Kd.C_drewN ?_ _) | (with_reducible refine Kd.C_drew ?_))); (case side2 => exact HC1.out); (case side3 => repeat (first | exact (Kd.R_reads' HO419.out).2.2 | (with_reducible refine Kd.C_alloc ?_ _) | (with_reducible refine Kd.C_drewN ?_ _) | (with_reducible refine Kd.C_drew ?_))); (case side4 => exact (Kd.R_reads' HO419.out).2.1); rintro e w21 ⟨rfl, hb⟩; refine ⟨_, rfl, ?_⟩; have n0_ := Aside0.mk (Kd.R_below (by (with_reducible repeat (first | apply Kd.R_alloc | apply Kd.R_drewN | apply Kd.R_drew)); exact HO419.out) hb); have n1_ := Aside0.mk (blk_below (g := gb415) (o := .cells #[.int .i64 a2_0, .int .i64 a2_1] 35 (0, 0)) (by (with_reducible repeat (first | refine blk_drewN ?_ _ | refine blk_drew ?_ | refine blk_alloc ?_ _)); exact BK415.out) hb); have n2_ := Aside0.mk (blk_below (g := gb416) (o := .cells #[.int .i64 a3_0, .int .i64 a3_1] 35 (0, 0)) (by (with_reducible repeat (first | refine blk_drewN ?_ _ | refine blk_drew ?_ | refine blk_alloc ?_ _)); exact BK416.out) hb); have n3_ := Aside0.mk (below_step (by repeat (first | (with_reducible first | exact HB.out | apply below_alloc | apply pw_below_drewN | apply below_drew1 | refine below_set ?_ GE415.out | refine below_set ?_ GE416.out) | exact HB.out)) hb); clear HO419; clear BK415; clear BK416; clear HB; have HO419 := n0_; have BK415 := n1_; have BK416 := n2_; have HB := n3_; clear n0_ n1_ n2_ n3_; (try clear hb); (try clear hb2); (try clear hk); (try clear hi)) | ((with_reducible refine gate_callee (f := 90) rfl ?_); refine goesL_ (some 23) rfl rfl Try.func90 (by kernel_rfl) rfl #[.int .i64 a0, .slice A1 l1.length c1] rfl (by (try simp only [List.map_toArray, List.map_cons, List.map_nil]); first | done | rfl | (simp only [List.length_drop, List.length_take]; rfl)) ?_; (with_reducible refine (weigh_marks.calls a0 _ _ l1 t421 _ ?side1 ?side2 A7.out).mono ?_); (case side1 => repeat (first | exact (Kd.C_below HR1.out HB.out) | (with_reducible refine Kd.C_alloc ?_ _) | (with_reducible refine Kd.C_drewN ?_ _) | (with_reducible refine Kd.C_drew ?_))); (case side2 => exact HC1.out); rintro e w22 ⟨v422, rfl, ho0, hb⟩; refine ⟨_, rfl, ?_⟩; have n0_ := Aside0.mk (Kd.R_below (by (with_reducible repeat (first | apply Kd.R_alloc | apply Kd.R_drewN | apply Kd.R_drew)); exact HO419.out) hb); have n1_ := Aside0.mk (Kd.R_lower ho0 (below_size (by repeat (first | (with_reducible first | exact HB.out | apply below_alloc | apply pw_below_drewN | apply below_drew1 | refine below_set ?_ GE415.out | refine below_set ?_ GE416.out) | exact HB.out)))); have n2_ := Aside0.mk (blk_below (g := gb415) (o := .cells #[.int .i64 a2_0, .int .i64 a2_1] 35 (0, 0)) (by (with_reducible repeat (first | refine blk_drewN ?_ _ | refine blk_drew ?_ | refine blk_alloc ?_ _)); exact BK415.out) hb); have n3_ := Aside0.mk (blk_below (g := gb416) (o := .cells #[.int .i64 a3_0, .int .i64 a3_1] 35 (0, 0)) (by (with_reducible repeat (first | refine blk_drewN ?_ _ | refine blk_drew ?_ | refine blk_alloc ?_ _)); exact BK416.out) hb); have n4_ := Aside0.mk (below_step (by repeat (first | (with_reducible first | exact HB.out | apply below_alloc | apply pw_below_drewN | apply below_drew1 | refine below_set ?_ GE415.out | refine below_set ?_ GE416.out) | exact HB.out)) hb); clear HO419; clear BK415; clear BK416; clear HB; have HO419 := n0_; have HO423 := n1_; have BK415 := n2_; have BK416 := n3_; have HB := n4_; clear n0_ n1_ n2_ n3_ n4_; (try clear hb); (try clear hb2); (try clear hk); (try clear hi); (try clear ho0)))
        have n0_ := Aside0.mk (Kd.R_drew HO419.out)
        have n1_ := Aside0.mk (Kd.R_drew HO423.out)
        have n2_ := Aside0.mk (blk_drew BK415.out)
        have n3_ := Aside0.mk (blk_drew BK416.out)
        have n4_ := Aside0.mk (below_drew1 HB.out)
        clear HO419
        clear HO423
        clear BK415
        clear BK416
        clear HB
        have HO419 := n0_
        have HO423 := n1_
        have BK415 := n2_
        have BK416 := n3_
        have HB := n4_
        clear n0_ n1_ n2_ n3_ n4_
        obtain ⟨Ao24, co24, eo24⟩ := Kd.R_slice HO423.out
        (first | subst eo24 | (injection eo24 with f1_ f2_ f3_; have f4_ := f1_.symm; have f5_ := f3_.symm; clear f1_ f2_ f3_; subst f4_; subst f5_))
        have p424 : 0 ≤ (a2_0 : Int) := of_decide_eq_true (by first | (with_reducible assumption) | assumption)
        have q424 : a2_0 < (t421.length : Int) := of_decide_eq_true (by first | (with_reducible assumption) | assumption)
        obtain ⟨ad424, e424, hx424_0, hx424_1, hx424_2⟩ := at_T70 (Kd.R_reads' HO423.out).2.2 a2_0 p424 q424
        cases e424
        replace p424 := eq_true p424
        replace q424 := eq_true q424
        refine start_ (n := 10) (S := fun w' => w'.cell? ⟨gb415, 0, none⟩ = some (.int .i64 a2_0) ∧ w'.cell? ⟨gb415, 1, none⟩ = some (.int .i64 a2_1) ∧ w'.cell? (ad424.add ((a2_0).toNat * 3)) = some (.int .i64 ((rd_T70 t421 a2_0).f0)) ∧ w'.cell? ⟨(ad424.add ((a2_0).toNat * 3)).block, (ad424.add ((a2_0).toNat * 3)).off + 1, none⟩ = some (.int .i64 ((rd_T70 t421 a2_0).f1)) ∧ w'.cell? ⟨(ad424.add ((a2_0).toNat * 3)).block, (ad424.add ((a2_0).toNat * 3)).off + 2, none⟩ = some (.int .i64 ((rd_T70 t421 a2_0).f2))) (ds := []) #[false, false, false, false, false, false, false, false, false, false] (by kernel_rfl) rfl rfl ⟨(blk_cell BK415.out 0).trans rfl, (blk_cell BK415.out 1).trans rfl, hx424_0, hx424_1, hx424_2⟩ (fun hHeld => ?_); refine with_tabW weigh_CheckBad.tab5 weigh_CheckBad.bits5 (fun HT_ HW_ => ?_)
        generalize w22.drew = w23 at HO419 HO423 BK415 BK416 HB hx424_0 hx424_1 hx424_2 hHeld ⊢
        refine pure_ (i := 0) (N := some 24) (v := ?_) (a' := ?_) #[true, false, false, false, false, false, false, false, false, false] rfl rfl (any_of HT_.out (by kernel_rfl)) (fun _ _ _ h => h) (Or.inl ⟨by rfl, ?_⟩) ?_ ?_
        rotate_left
        · intro w'
          go_simp
          with_reducible rfl
        rotate_left
        · simp only [Act.put, List.setIfInBounds_toArray, List.set_cons_zero, List.set_cons_succ, i64_w, i32_w]
          rfl
        refine pure_ (i := 1) (N := some 25) (v := ?_) (a' := ?_) #[true, true, false, false, false, false, false, false, false, false] rfl rfl (any_of HT_.out (by kernel_rfl)) (fun _ _ _ h => h) (Or.inl ⟨by rfl, ?_⟩) ?_ ?_
        rotate_left
        · intro w'
          go_simp
          with_reducible rfl
        rotate_left
        · simp only [Act.put, List.setIfInBounds_toArray, List.set_cons_zero, List.set_cons_succ, i64_w, i32_w]
          rfl
        refine pure_ (i := 5) (N := some 29) (v := ?_) (a' := ?_) #[true, true, false, false, false, true, false, false, false, false] rfl rfl (any_of HT_.out (by kernel_rfl)) (fun _ _ _ h => h) (Or.inl ⟨by rfl, ?_⟩) ?_ ?_
        rotate_left
        · intro w'
          go_simp
          with_reducible rfl
        rotate_left
        · simp only [Act.put, List.setIfInBounds_toArray, List.set_cons_zero, List.set_cons_succ, i64_w, i32_w]
          rfl
        refine take_ (i := 2) (N := some 26) (v := ?_) (a' := ?_) #[true, true, true, false, false, true, false, false, false, false] rfl rfl (take_ofW HT_.out HW_.out (by kernel_rfl)) (fun _ _ _ h => h) (Or.inl ⟨by rfl, ?_⟩) hHeld ?_ ?_
        rotate_left
        · rintro w' ⟨s0, s1, s2, s3, s4⟩
          go_simp
          with_reducible rfl
        rotate_left
        · simp only [Act.put, List.setIfInBounds_toArray, List.set_cons_zero, List.set_cons_succ, i64_w, i32_w]
          rfl
        refine pure_ (i := 3) (N := some 27) (v := ?_) (a' := ?_) #[true, true, true, true, false, true, false, false, false, false] rfl rfl (any_of HT_.out (by kernel_rfl)) (fun _ _ _ h => h) (Or.inl ⟨by rfl, ?_⟩) ?_ ?_
        rotate_left
        · intro w'
          go_simp
          with_reducible rfl
        rotate_left
        · simp only [Act.put, List.setIfInBounds_toArray, List.set_cons_zero, List.set_cons_succ, i64_w, i32_w]
          rfl
        refine take_ (i := 4) (N := some 28) (v := ?_) (a' := ?_) #[true, true, true, true, true, true, false, false, false, false] rfl rfl (take_ofW HT_.out HW_.out (by kernel_rfl)) (fun _ _ _ h => h) (Or.inl ⟨by rfl, ?_⟩) hHeld ?_ ?_
        rotate_left
        · rintro w' ⟨s0, s1, s2, s3, s4⟩
          go_simp
          with_reducible rfl
        rotate_left
        · simp only [Act.put, List.setIfInBounds_toArray, List.set_cons_zero, List.set_cons_succ, i64_w, i32_w]
          rfl
        refine take_ (i := 6) (N := some 30) (v := ?_) (a' := ?_) #[true, true, true, true, true, true, true, false, false, false] rfl rfl (take_ofW HT_.out HW_.out (by kernel_rfl)) (fun _ _ _ h => h) (Or.inl ⟨by rfl, ?_⟩) hHeld ?_ ?_
        rotate_left
        · rintro w' ⟨s0, s1, s2, s3, s4⟩
          go_simp
          with_reducible rfl
        rotate_left
        · simp only [Act.put, List.setIfInBounds_toArray, List.set_cons_zero, List.set_cons_succ, i64_w, i32_w]
          rfl
        refine join_ (σ := Nat) 1 #[true, true, true, true, true, true, true, true, true, false] (fun s_ => [(31, .agg #[.int .i64 t425, .int .i64 t426, .int .i64 t427]), (11, .pointer (some ⟨s_, 0, none⟩))]) (fun s_ w' => (w'.cell? ⟨gb415, 0, none⟩ = some (.int .i64 a2_0) ∧ w'.cell? ⟨gb415, 1, none⟩ = some (.int .i64 a2_1) ∧ w'.cell? (ad424.add ((a2_0).toNat * 3)) = some (.int .i64 ((rd_T70 t421 a2_0).f0)) ∧ w'.cell? ⟨(ad424.add ((a2_0).toNat * 3)).block, (ad424.add ((a2_0).toNat * 3)).off + 1, none⟩ = some (.int .i64 ((rd_T70 t421 a2_0).f1)) ∧ w'.cell? ⟨(ad424.add ((a2_0).toNat * 3)).block, (ad424.add ((a2_0).toNat * 3)).off + 2, none⟩ = some (.int .i64 ((rd_T70 t421 a2_0).f2))) ∧ (Kd.R k35 35 w' w.heap.size (fun k_ => k_ ≠ gb415 ∧ k_ ≠ gb416) (.slice Ao20 y417.length co20) y417) ∧ (Kd.R k70 70 w' w.heap.size (fun k_ => k_ ≠ s_) (.slice (some ad424) t421.length co24) t421) ∧ (w'.heap[gb415]? = some (.cells #[.int .i64 a2_0, .int .i64 a2_1] 35 (0, 0))) ∧ (w'.heap[gb416]? = some (.cells #[.int .i64 a3_0, .int .i64 a3_1] 35 (0, 0))) ∧ (w'.heap[s_]? = some (.cells #[.int .i64 0, .int .i64 0, .int .i64 0] 70 (0, 0))) ∧ (w.heap.size ≤ s_) ∧ (w.heap.size ≤ s_) ∧ (gb415 ≠ s_) ∧ (s_ ≠ gb415) ∧ (gb416 ≠ s_) ∧ (s_ ≠ gb416) ∧ (Below w.heap.size w w')) ?_ ?_
        rotate_left
        · intro hCont
          refine two_ (i := 7) (j := 8) (Ni := some 31) (Nj := some 11) #[true, true, true, true, true, true, true, true, false, false] #[true, true, true, true, true, true, true, false, true, false] rfl rfl rfl rfl (two_of HT_.out (by kernel_rfl)) (by decide) (by decide) (fun K hK => ?_) (fun K hK => ?_)
          · skip
            refine goes_ Try.func94 (by kernel_rfl) rfl #[.agg #[.int .i64 ((rd_T70 t421 a2_0).f0), .int .i64 ((rd_T70 t421 a2_0).f1), .int .i64 ((rd_T70 t421 a2_0).f2)], .int .i64 a2_1] (by rfl) rfl rfl (by (try simp only [List.map_toArray, List.map_cons, List.map_nil]); first | done | rfl | (simp only [List.length_drop, List.length_take]; rfl)) ?_
            with_reducible refine (weigh_mark_times.calls ((rd_T70 t421 a2_0).f0) ((rd_T70 t421 a2_0).f1) ((rd_T70 t421 a2_0).f2) a2_1 t425 t426 t427 _ A10.out).mono ?_
            rintro e w25 ⟨rfl, hb⟩
            have HS2_ := (hb.cell (World.block_lt_of_cell? _ _ (hHeld.2.2.1))).trans (hHeld.2.2.1)
            have HS3_ := (hb.cell (World.block_lt_of_cell? _ _ (hHeld.2.2.2.1))).trans (hHeld.2.2.2.1)
            have HS4_ := (hb.cell (World.block_lt_of_cell? _ _ (hHeld.2.2.2.2))).trans (hHeld.2.2.2.2)
            refine ⟨_, rfl, ?_⟩
            have n0_ := Aside0.mk (Kd.R_below (by (with_reducible repeat (first | apply Kd.R_alloc | apply Kd.R_drewN | apply Kd.R_drew)); exact HO419.out) hb)
            have n1_ := Aside0.mk (Kd.R_below (by (with_reducible repeat (first | apply Kd.R_alloc | apply Kd.R_drewN | apply Kd.R_drew)); exact HO423.out) hb)
            have n2_ := Aside0.mk (blk_below (g := gb415) (o := .cells #[.int .i64 a2_0, .int .i64 a2_1] 35 (0, 0)) (by (with_reducible repeat (first | refine blk_drewN ?_ _ | refine blk_drew ?_ | refine blk_alloc ?_ _)); exact BK415.out) hb)
            have n3_ := Aside0.mk (blk_below (g := gb416) (o := .cells #[.int .i64 a3_0, .int .i64 a3_1] 35 (0, 0)) (by (with_reducible repeat (first | refine blk_drewN ?_ _ | refine blk_drew ?_ | refine blk_alloc ?_ _)); exact BK416.out) hb)
            have n4_ := Aside0.mk (below_step (by repeat (first | (with_reducible first | exact HB.out | apply below_alloc | apply pw_below_drewN | apply below_drew1 | refine below_set ?_ GE415.out | refine below_set ?_ GE416.out) | exact HB.out)) hb)
            clear HO419
            clear HO423
            clear BK415
            clear BK416
            clear HB
            have HO419 := n0_
            have HO423 := n1_
            have BK415 := n2_
            have BK416 := n3_
            have HB := n4_
            clear n0_ n1_ n2_ n3_ n4_
            (try clear hb)
            (try clear hb2)
            (try clear hk)
            (try clear hi)
            refine hK.out _ _ ⟨(blk_cell BK415.out 0).trans rfl, (blk_cell BK415.out 1).trans rfl, HS2_, HS3_, HS4_⟩ (fun hHeld => ?_)
            clear hK K
            refine norm_ (a' := ?_) ?_ ?_
            rotate_left
            · show Act.put _ (some 31) _ = _
              simp only [Act.put, List.setIfInBounds_toArray, List.set_cons_zero, List.set_cons_succ, i64_w, i32_w]
              rfl
            refine one_ (i := 8) (N := some 11) #[true, true, true, true, true, true, true, true, true, false] rfl rfl (one_of HT_.out (by kernel_rfl)) (by decide) (fun K hK => ?_)
            refine box_step ?hg (N := 11) ?hd (cs := #[.int .i64 0, .int .i64 0, .int .i64 0]) (t := 70) ?hr ?_; (case hd => rfl); (case hg => rfl); (case hr => first | (go_simp; done) | (go_simp; rfl))
            intro gb428 hg w26 hbox hb
            have HS2_ := (hb.cell (World.block_lt_of_cell? _ _ (hHeld.2.2.1))).trans (hHeld.2.2.1)
            have HS3_ := (hb.cell (World.block_lt_of_cell? _ _ (hHeld.2.2.2.1))).trans (hHeld.2.2.2.1)
            have HS4_ := (hb.cell (World.block_lt_of_cell? _ _ (hHeld.2.2.2.2))).trans (hHeld.2.2.2.2)
            have n0_ := Aside0.mk (Kd.R_below (by (with_reducible repeat (first | apply Kd.R_alloc | apply Kd.R_drewN | apply Kd.R_drew)); exact HO419.out) hb)
            have n1_ := Aside0.mk (Kd.R_below (Kd.R_elderB (by (with_reducible repeat (first | apply Kd.R_alloc | apply Kd.R_drewN | apply Kd.R_drew)); exact HO423.out) gb428 (Nat.le_of_eq hg.symm)) hb)
            have n2_ := Aside0.mk (blk_below (g := gb415) (o := .cells #[.int .i64 a2_0, .int .i64 a2_1] 35 (0, 0)) (by (with_reducible repeat (first | refine blk_drewN ?_ _ | refine blk_drew ?_ | refine blk_alloc ?_ _)); exact BK415.out) hb)
            have n3_ := Aside0.mk (blk_below (g := gb416) (o := .cells #[.int .i64 a3_0, .int .i64 a3_1] 35 (0, 0)) (by (with_reducible repeat (first | refine blk_drewN ?_ _ | refine blk_drew ?_ | refine blk_alloc ?_ _)); exact BK416.out) hb)
            have n4_ := Aside0.mk (below_step (by repeat (first | (with_reducible first | exact HB.out | apply below_alloc | apply pw_below_drewN | apply below_drew1 | refine below_set ?_ GE415.out | refine below_set ?_ GE416.out) | exact HB.out)) hb)
            have n5_ := Aside0.mk (hbox)
            have n6_ := Aside0.mk ((by rw [hg]; exact (below_size (by repeat (first | (with_reducible first | exact HB.out | apply below_alloc | apply pw_below_drewN | apply below_drew1 | refine below_set ?_ GE415.out | refine below_set ?_ GE416.out) | exact HB.out))) : w.heap.size ≤ gb428))
            have n7_ := Aside0.mk ((by rw [hg]; exact (below_size (by repeat (first | (with_reducible first | exact HB.out | apply below_alloc | apply pw_below_drewN | apply below_drew1 | refine below_set ?_ GE415.out | refine below_set ?_ GE416.out) | exact HB.out))) : w.heap.size ≤ gb428))
            have n8_ := Aside0.mk ((by rw [hg]; exact Nat.ne_of_lt (blk_lt (g := gb415) (o := .cells #[.int .i64 a2_0, .int .i64 a2_1] 35 (0, 0)) (by (with_reducible repeat (first | refine blk_drewN ?_ _ | refine blk_drew ?_ | refine blk_alloc ?_ _)); exact BK415.out)) : gb415 ≠ gb428))
            have n9_ := Aside0.mk ((by rw [hg]; exact Nat.ne_of_gt (blk_lt (g := gb415) (o := .cells #[.int .i64 a2_0, .int .i64 a2_1] 35 (0, 0)) (by (with_reducible repeat (first | refine blk_drewN ?_ _ | refine blk_drew ?_ | refine blk_alloc ?_ _)); exact BK415.out)) : gb428 ≠ gb415))
            have n10_ := Aside0.mk ((by rw [hg]; exact Nat.ne_of_lt (blk_lt (g := gb416) (o := .cells #[.int .i64 a3_0, .int .i64 a3_1] 35 (0, 0)) (by (with_reducible repeat (first | refine blk_drewN ?_ _ | refine blk_drew ?_ | refine blk_alloc ?_ _)); exact BK416.out)) : gb416 ≠ gb428))
            have n11_ := Aside0.mk ((by rw [hg]; exact Nat.ne_of_gt (blk_lt (g := gb416) (o := .cells #[.int .i64 a3_0, .int .i64 a3_1] 35 (0, 0)) (by (with_reducible repeat (first | refine blk_drewN ?_ _ | refine blk_drew ?_ | refine blk_alloc ?_ _)); exact BK416.out)) : gb428 ≠ gb416))
            clear HO419
            clear HO423
            clear BK415
            clear BK416
            clear HB
            have HO419 := n0_
            have HO423 := n1_
            have BK415 := n2_
            have BK416 := n3_
            have HB := n4_
            have BK428 := n5_
            have GW428 := n6_
            have GE428 := n7_
            have NB415_428 := n8_
            have NB428_415 := n9_
            have NB416_428 := n10_
            have NB428_416 := n11_
            clear n0_ n1_ n2_ n3_ n4_ n5_ n6_ n7_ n8_ n9_ n10_ n11_
            clear hb hbox hg
            refine hK.out _ _ ⟨(blk_cell BK415.out 0).trans rfl, (blk_cell BK415.out 1).trans rfl, HS2_, HS3_, HS4_⟩ (fun hHeld => ?_)
            clear hK K
            refine norm_ (a' := ?_) ?_ ?_
            rotate_left
            · show Act.put _ (some 11) _ = _
              simp only [Act.put, List.setIfInBounds_toArray, List.set_cons_zero, List.set_cons_succ, i64_w, i32_w]
              rfl
            exact norm_ (by simp only [putAll, Act.put, List.setIfInBounds_toArray, List.set_cons_zero, List.set_cons_succ]) (hCont (gb428) _ ⟨hHeld, (by (with_reducible repeat (first | apply Kd.R_alloc | apply Kd.R_drewN | apply Kd.R_drew)); exact Kd.R_mono HO419.out (fun _ hk => ⟨hk.1.2, hk.2⟩)), (by (with_reducible repeat (first | apply Kd.R_alloc | apply Kd.R_drewN | apply Kd.R_drew)); exact Kd.R_mono HO423.out (fun _ hk => hk.2)), (by (with_reducible repeat (first | refine blk_drewN ?_ _ | refine blk_drew ?_ | refine blk_alloc ?_ _)); exact BK415.out), (by (with_reducible repeat (first | refine blk_drewN ?_ _ | refine blk_drew ?_ | refine blk_alloc ?_ _)); exact BK416.out), (by (with_reducible repeat (first | refine blk_drewN ?_ _ | refine blk_drew ?_ | refine blk_alloc ?_ _)); exact BK428.out), GW428.out, GE428.out, NB415_428.out, NB428_415.out, NB416_428.out, NB428_416.out, (by repeat (first | (with_reducible first | exact HB.out | apply below_alloc | apply pw_below_drewN | apply below_drew1 | refine below_set ?_ GE415.out | refine below_set ?_ GE416.out | refine below_set ?_ GE428.out) | exact HB.out))⟩)
          · skip
            refine box_step ?hg (N := 11) ?hd (cs := #[.int .i64 0, .int .i64 0, .int .i64 0]) (t := 70) ?hr ?_; (case hd => rfl); (case hg => rfl); (case hr => first | (go_simp; done) | (go_simp; rfl))
            intro gb428 hg w25 hbox hb
            have HS2_ := (hb.cell (World.block_lt_of_cell? _ _ (hHeld.2.2.1))).trans (hHeld.2.2.1)
            have HS3_ := (hb.cell (World.block_lt_of_cell? _ _ (hHeld.2.2.2.1))).trans (hHeld.2.2.2.1)
            have HS4_ := (hb.cell (World.block_lt_of_cell? _ _ (hHeld.2.2.2.2))).trans (hHeld.2.2.2.2)
            have n0_ := Aside0.mk (Kd.R_below (by (with_reducible repeat (first | apply Kd.R_alloc | apply Kd.R_drewN | apply Kd.R_drew)); exact HO419.out) hb)
            have n1_ := Aside0.mk (Kd.R_below (Kd.R_elderB (by (with_reducible repeat (first | apply Kd.R_alloc | apply Kd.R_drewN | apply Kd.R_drew)); exact HO423.out) gb428 (Nat.le_of_eq hg.symm)) hb)
            have n2_ := Aside0.mk (blk_below (g := gb415) (o := .cells #[.int .i64 a2_0, .int .i64 a2_1] 35 (0, 0)) (by (with_reducible repeat (first | refine blk_drewN ?_ _ | refine blk_drew ?_ | refine blk_alloc ?_ _)); exact BK415.out) hb)
            have n3_ := Aside0.mk (blk_below (g := gb416) (o := .cells #[.int .i64 a3_0, .int .i64 a3_1] 35 (0, 0)) (by (with_reducible repeat (first | refine blk_drewN ?_ _ | refine blk_drew ?_ | refine blk_alloc ?_ _)); exact BK416.out) hb)
            have n4_ := Aside0.mk (below_step (by repeat (first | (with_reducible first | exact HB.out | apply below_alloc | apply pw_below_drewN | apply below_drew1 | refine below_set ?_ GE415.out | refine below_set ?_ GE416.out) | exact HB.out)) hb)
            have n5_ := Aside0.mk (hbox)
            have n6_ := Aside0.mk ((by rw [hg]; exact (below_size (by repeat (first | (with_reducible first | exact HB.out | apply below_alloc | apply pw_below_drewN | apply below_drew1 | refine below_set ?_ GE415.out | refine below_set ?_ GE416.out) | exact HB.out))) : w.heap.size ≤ gb428))
            have n7_ := Aside0.mk ((by rw [hg]; exact (below_size (by repeat (first | (with_reducible first | exact HB.out | apply below_alloc | apply pw_below_drewN | apply below_drew1 | refine below_set ?_ GE415.out | refine below_set ?_ GE416.out) | exact HB.out))) : w.heap.size ≤ gb428))
            have n8_ := Aside0.mk ((by rw [hg]; exact Nat.ne_of_lt (blk_lt (g := gb415) (o := .cells #[.int .i64 a2_0, .int .i64 a2_1] 35 (0, 0)) (by (with_reducible repeat (first | refine blk_drewN ?_ _ | refine blk_drew ?_ | refine blk_alloc ?_ _)); exact BK415.out)) : gb415 ≠ gb428))
            have n9_ := Aside0.mk ((by rw [hg]; exact Nat.ne_of_gt (blk_lt (g := gb415) (o := .cells #[.int .i64 a2_0, .int .i64 a2_1] 35 (0, 0)) (by (with_reducible repeat (first | refine blk_drewN ?_ _ | refine blk_drew ?_ | refine blk_alloc ?_ _)); exact BK415.out)) : gb428 ≠ gb415))
            have n10_ := Aside0.mk ((by rw [hg]; exact Nat.ne_of_lt (blk_lt (g := gb416) (o := .cells #[.int .i64 a3_0, .int .i64 a3_1] 35 (0, 0)) (by (with_reducible repeat (first | refine blk_drewN ?_ _ | refine blk_drew ?_ | refine blk_alloc ?_ _)); exact BK416.out)) : gb416 ≠ gb428))
            have n11_ := Aside0.mk ((by rw [hg]; exact Nat.ne_of_gt (blk_lt (g := gb416) (o := .cells #[.int .i64 a3_0, .int .i64 a3_1] 35 (0, 0)) (by (with_reducible repeat (first | refine blk_drewN ?_ _ | refine blk_drew ?_ | refine blk_alloc ?_ _)); exact BK416.out)) : gb428 ≠ gb416))
            clear HO419
            clear HO423
            clear BK415
            clear BK416
            clear HB
            have HO419 := n0_
            have HO423 := n1_
            have BK415 := n2_
            have BK416 := n3_
            have HB := n4_
            have BK428 := n5_
            have GW428 := n6_
            have GE428 := n7_
            have NB415_428 := n8_
            have NB428_415 := n9_
            have NB416_428 := n10_
            have NB428_416 := n11_
            clear n0_ n1_ n2_ n3_ n4_ n5_ n6_ n7_ n8_ n9_ n10_ n11_
            clear hb hbox hg
            refine hK.out _ _ ⟨(blk_cell BK415.out 0).trans rfl, (blk_cell BK415.out 1).trans rfl, HS2_, HS3_, HS4_⟩ (fun hHeld => ?_)
            clear hK K
            refine norm_ (a' := ?_) ?_ ?_
            rotate_left
            · show Act.put _ (some 11) _ = _
              simp only [Act.put, List.setIfInBounds_toArray, List.set_cons_zero, List.set_cons_succ, i64_w, i32_w]
              rfl
            refine one_ (i := 7) (N := some 31) #[true, true, true, true, true, true, true, true, true, false] rfl rfl (one_of HT_.out (by kernel_rfl)) (by decide) (fun K hK => ?_)
            refine goes_ Try.func94 (by kernel_rfl) rfl #[.agg #[.int .i64 ((rd_T70 t421 a2_0).f0), .int .i64 ((rd_T70 t421 a2_0).f1), .int .i64 ((rd_T70 t421 a2_0).f2)], .int .i64 a2_1] (by rfl) rfl rfl (by (try simp only [List.map_toArray, List.map_cons, List.map_nil]); first | done | rfl | (simp only [List.length_drop, List.length_take]; rfl)) ?_
            with_reducible refine (weigh_mark_times.calls ((rd_T70 t421 a2_0).f0) ((rd_T70 t421 a2_0).f1) ((rd_T70 t421 a2_0).f2) a2_1 t425 t426 t427 _ A10.out).mono ?_
            rintro e w26 ⟨rfl, hb⟩
            have HS2_ := (hb.cell (World.block_lt_of_cell? _ _ (hHeld.2.2.1))).trans (hHeld.2.2.1)
            have HS3_ := (hb.cell (World.block_lt_of_cell? _ _ (hHeld.2.2.2.1))).trans (hHeld.2.2.2.1)
            have HS4_ := (hb.cell (World.block_lt_of_cell? _ _ (hHeld.2.2.2.2))).trans (hHeld.2.2.2.2)
            refine ⟨_, rfl, ?_⟩
            have n0_ := Aside0.mk (Kd.R_below (by (with_reducible repeat (first | apply Kd.R_alloc | apply Kd.R_drewN | apply Kd.R_drew)); exact HO419.out) hb)
            have n1_ := Aside0.mk (Kd.R_below (by (with_reducible repeat (first | apply Kd.R_alloc | apply Kd.R_drewN | apply Kd.R_drew)); exact HO423.out) hb)
            have n2_ := Aside0.mk (blk_below (g := gb415) (o := .cells #[.int .i64 a2_0, .int .i64 a2_1] 35 (0, 0)) (by (with_reducible repeat (first | refine blk_drewN ?_ _ | refine blk_drew ?_ | refine blk_alloc ?_ _)); exact BK415.out) hb)
            have n3_ := Aside0.mk (blk_below (g := gb416) (o := .cells #[.int .i64 a3_0, .int .i64 a3_1] 35 (0, 0)) (by (with_reducible repeat (first | refine blk_drewN ?_ _ | refine blk_drew ?_ | refine blk_alloc ?_ _)); exact BK416.out) hb)
            have n4_ := Aside0.mk (blk_below (g := gb428) (o := .cells #[.int .i64 0, .int .i64 0, .int .i64 0] 70 (0, 0)) (by (with_reducible repeat (first | refine blk_drewN ?_ _ | refine blk_drew ?_ | refine blk_alloc ?_ _)); exact BK428.out) hb)
            have n5_ := Aside0.mk (below_step (by repeat (first | (with_reducible first | exact HB.out | apply below_alloc | apply pw_below_drewN | apply below_drew1 | refine below_set ?_ GE415.out | refine below_set ?_ GE416.out | refine below_set ?_ GE428.out) | exact HB.out)) hb)
            clear HO419
            clear HO423
            clear BK415
            clear BK416
            clear BK428
            clear HB
            have HO419 := n0_
            have HO423 := n1_
            have BK415 := n2_
            have BK416 := n3_
            have BK428 := n4_
            have HB := n5_
            clear n0_ n1_ n2_ n3_ n4_ n5_
            (try clear hb)
            (try clear hb2)
            (try clear hk)
            (try clear hi)
            refine hK.out _ _ ⟨(blk_cell BK415.out 0).trans rfl, (blk_cell BK415.out 1).trans rfl, HS2_, HS3_, HS4_⟩ (fun hHeld => ?_)
            clear hK K
            refine norm_ (a' := ?_) ?_ ?_
            rotate_left
            · show Act.put _ (some 31) _ = _
              simp only [Act.put, List.setIfInBounds_toArray, List.set_cons_zero, List.set_cons_succ, i64_w, i32_w]
              rfl
            exact norm_ (by simp only [putAll, Act.put, List.setIfInBounds_toArray, List.set_cons_zero, List.set_cons_succ]) (hCont (gb428) _ ⟨hHeld, (by (with_reducible repeat (first | apply Kd.R_alloc | apply Kd.R_drewN | apply Kd.R_drew)); exact Kd.R_mono HO419.out (fun _ hk => ⟨hk.1.2, hk.2⟩)), (by (with_reducible repeat (first | apply Kd.R_alloc | apply Kd.R_drewN | apply Kd.R_drew)); exact Kd.R_mono HO423.out (fun _ hk => hk.2)), (by (with_reducible repeat (first | refine blk_drewN ?_ _ | refine blk_drew ?_ | refine blk_alloc ?_ _)); exact BK415.out), (by (with_reducible repeat (first | refine blk_drewN ?_ _ | refine blk_drew ?_ | refine blk_alloc ?_ _)); exact BK416.out), (by (with_reducible repeat (first | refine blk_drewN ?_ _ | refine blk_drew ?_ | refine blk_alloc ?_ _)); exact BK428.out), GW428.out, GE428.out, NB415_428.out, NB428_415.out, NB416_428.out, NB428_416.out, (by repeat (first | (with_reducible first | exact HB.out | apply below_alloc | apply pw_below_drewN | apply below_drew1 | refine below_set ?_ GE415.out | refine below_set ?_ GE416.out | refine below_set ?_ GE428.out) | exact HB.out))⟩)
        rintro gb428 w27 ⟨hS_, h0_, h1_, h2_, h3_, h4_, h5_, h6_, h7_, h8_, h9_, h10_, h11_⟩
        have n0_ : Aside0 (Kd.R k35 35 w27 w.heap.size (fun k_ => k_ ≠ gb415 ∧ k_ ≠ gb416) (.slice Ao20 y417.length co20) y417) := ⟨h0_⟩
        have n1_ : Aside0 (Kd.R k70 70 w27 w.heap.size (fun k_ => k_ ≠ gb428) (.slice (some ad424) t421.length co24) t421) := ⟨h1_⟩
        have n2_ : Aside0 (w27.heap[gb415]? = some (.cells #[.int .i64 a2_0, .int .i64 a2_1] 35 (0, 0))) := ⟨h2_⟩
        have n3_ : Aside0 (w27.heap[gb416]? = some (.cells #[.int .i64 a3_0, .int .i64 a3_1] 35 (0, 0))) := ⟨h3_⟩
        have n4_ : Aside0 (w27.heap[gb428]? = some (.cells #[.int .i64 0, .int .i64 0, .int .i64 0] 70 (0, 0))) := ⟨h4_⟩
        have n5_ : Aside0 (w.heap.size ≤ gb428) := ⟨h5_⟩
        have n6_ : Aside0 (w.heap.size ≤ gb428) := ⟨h6_⟩
        have n7_ : Aside0 (gb415 ≠ gb428) := ⟨h7_⟩
        have n8_ : Aside0 (gb428 ≠ gb415) := ⟨h8_⟩
        have n9_ : Aside0 (gb416 ≠ gb428) := ⟨h9_⟩
        have n10_ : Aside0 (gb428 ≠ gb416) := ⟨h10_⟩
        have n11_ : Aside0 (Below w.heap.size w w27) := ⟨h11_⟩
        clear HO419
        clear HO423
        clear BK415
        clear BK416
        clear HB
        clear h0_ h1_ h2_ h3_ h4_ h5_ h6_ h7_ h8_ h9_ h10_ h11_
        have HO419 := n0_
        have HO423 := n1_
        have BK415 := n2_
        have BK416 := n3_
        have BK428 := n4_
        have GW428 := n5_
        have GE428 := n6_
        have NB415_428 := n7_
        have NB428_415 := n8_
        have NB416_428 := n9_
        have NB428_416 := n10_
        have HB := n11_
        clear n0_ n1_ n2_ n3_ n4_ n5_ n6_ n7_ n8_ n9_ n10_ n11_
        have hHeld : w27.cell? ⟨gb415, 0, none⟩ = some (.int .i64 a2_0) ∧ w27.cell? ⟨gb415, 1, none⟩ = some (.int .i64 a2_1) ∧ w27.cell? (ad424.add ((a2_0).toNat * 3)) = some (.int .i64 ((rd_T70 t421 a2_0).f0)) ∧ w27.cell? ⟨(ad424.add ((a2_0).toNat * 3)).block, (ad424.add ((a2_0).toNat * 3)).off + 1, none⟩ = some (.int .i64 ((rd_T70 t421 a2_0).f1)) ∧ w27.cell? ⟨(ad424.add ((a2_0).toNat * 3)).block, (ad424.add ((a2_0).toNat * 3)).off + 2, none⟩ = some (.int .i64 ((rd_T70 t421 a2_0).f2)) := hS_
        refine norm_ (a' := ?_) ?_ ?_
        rotate_left
        · simp only [putAll, Act.put, List.setIfInBounds_toArray, List.set_cons_zero, List.set_cons_succ]
          rfl
        refine one_ (i := 9) (N := none) #[true, true, true, true, true, true, true, true, true, true] rfl rfl (one_of HT_.out (by kernel_rfl)) (by decide) (fun K hK => ?_)
        have hs28 : w27.cell? ⟨gb428, 0, none⟩ = some (.int .i64 0) := (blk_cell BK428.out 0).trans rfl
        have hfs28 := blk_frozen BK428.out 0
        have hns28_0 := NB415_428.out
        have hns28_1 := NB416_428.out
        have hms28_0 := NB428_415.out
        have hms28_1 := NB428_416.out
        have hs29 : w27.cell? ⟨gb428, 1, none⟩ = some (.int .i64 0) := (blk_cell BK428.out 1).trans rfl
        have hfs29 := blk_frozen BK428.out 1
        have hns29_0 := NB415_428.out
        have hns29_1 := NB416_428.out
        have hms29_0 := NB428_415.out
        have hms29_1 := NB428_416.out
        have hs30 : w27.cell? ⟨gb428, 2, none⟩ = some (.int .i64 0) := (blk_cell BK428.out 2).trans rfl
        have hfs30 := blk_frozen BK428.out 2
        have hns30_0 := NB415_428.out
        have hns30_1 := NB416_428.out
        have hms30_0 := NB428_415.out
        have hms30_1 := NB428_416.out
        refine skip_ (w1 := ?_) (by rfl) rfl ?_ ?_
        rotate_left
        · go_simp
          rfl
        refine hK.out _ _ ⟨((cell_far (p := ⟨gb428, _, none⟩) NB415_428.out _).trans (((cell_far (p := ⟨gb428, _, none⟩) NB415_428.out _).trans (((cell_far (p := ⟨gb428, _, none⟩) NB415_428.out _).trans (hHeld.1)))))), ((cell_far (p := ⟨gb428, _, none⟩) NB415_428.out _).trans (((cell_far (p := ⟨gb428, _, none⟩) NB415_428.out _).trans (((cell_far (p := ⟨gb428, _, none⟩) NB415_428.out _).trans (hHeld.2.1)))))), ((cell_far (p := ⟨gb428, _, none⟩) (by first | exact Kd.own_blk (Kd.R_away HO423.out (fun _ hk => hk)) | (rw [add_block]; exact Kd.own_blk (Kd.R_away HO423.out (fun _ hk => hk))) | (show (Addr.add _ _).block ≠ _; rw [add_block]; exact Kd.own_blk (Kd.R_away HO423.out (fun _ hk => hk))) | (dsimp only; exact Kd.own_blk (Kd.R_away HO423.out (fun _ hk => hk)))) _).trans (((cell_far (p := ⟨gb428, _, none⟩) (by first | exact Kd.own_blk (Kd.R_away HO423.out (fun _ hk => hk)) | (rw [add_block]; exact Kd.own_blk (Kd.R_away HO423.out (fun _ hk => hk))) | (show (Addr.add _ _).block ≠ _; rw [add_block]; exact Kd.own_blk (Kd.R_away HO423.out (fun _ hk => hk))) | (dsimp only; exact Kd.own_blk (Kd.R_away HO423.out (fun _ hk => hk)))) _).trans (((cell_far (p := ⟨gb428, _, none⟩) (by first | exact Kd.own_blk (Kd.R_away HO423.out (fun _ hk => hk)) | (rw [add_block]; exact Kd.own_blk (Kd.R_away HO423.out (fun _ hk => hk))) | (show (Addr.add _ _).block ≠ _; rw [add_block]; exact Kd.own_blk (Kd.R_away HO423.out (fun _ hk => hk))) | (dsimp only; exact Kd.own_blk (Kd.R_away HO423.out (fun _ hk => hk)))) _).trans (hHeld.2.2.1)))))), ((cell_far (p := ⟨gb428, _, none⟩) (by first | exact Kd.own_blk (Kd.R_away HO423.out (fun _ hk => hk)) | (rw [add_block]; exact Kd.own_blk (Kd.R_away HO423.out (fun _ hk => hk))) | (show (Addr.add _ _).block ≠ _; rw [add_block]; exact Kd.own_blk (Kd.R_away HO423.out (fun _ hk => hk))) | (dsimp only; exact Kd.own_blk (Kd.R_away HO423.out (fun _ hk => hk)))) _).trans (((cell_far (p := ⟨gb428, _, none⟩) (by first | exact Kd.own_blk (Kd.R_away HO423.out (fun _ hk => hk)) | (rw [add_block]; exact Kd.own_blk (Kd.R_away HO423.out (fun _ hk => hk))) | (show (Addr.add _ _).block ≠ _; rw [add_block]; exact Kd.own_blk (Kd.R_away HO423.out (fun _ hk => hk))) | (dsimp only; exact Kd.own_blk (Kd.R_away HO423.out (fun _ hk => hk)))) _).trans (((cell_far (p := ⟨gb428, _, none⟩) (by first | exact Kd.own_blk (Kd.R_away HO423.out (fun _ hk => hk)) | (rw [add_block]; exact Kd.own_blk (Kd.R_away HO423.out (fun _ hk => hk))) | (show (Addr.add _ _).block ≠ _; rw [add_block]; exact Kd.own_blk (Kd.R_away HO423.out (fun _ hk => hk))) | (dsimp only; exact Kd.own_blk (Kd.R_away HO423.out (fun _ hk => hk)))) _).trans (hHeld.2.2.2.1)))))), ((cell_far (p := ⟨gb428, _, none⟩) (by first | exact Kd.own_blk (Kd.R_away HO423.out (fun _ hk => hk)) | (rw [add_block]; exact Kd.own_blk (Kd.R_away HO423.out (fun _ hk => hk))) | (show (Addr.add _ _).block ≠ _; rw [add_block]; exact Kd.own_blk (Kd.R_away HO423.out (fun _ hk => hk))) | (dsimp only; exact Kd.own_blk (Kd.R_away HO423.out (fun _ hk => hk)))) _).trans (((cell_far (p := ⟨gb428, _, none⟩) (by first | exact Kd.own_blk (Kd.R_away HO423.out (fun _ hk => hk)) | (rw [add_block]; exact Kd.own_blk (Kd.R_away HO423.out (fun _ hk => hk))) | (show (Addr.add _ _).block ≠ _; rw [add_block]; exact Kd.own_blk (Kd.R_away HO423.out (fun _ hk => hk))) | (dsimp only; exact Kd.own_blk (Kd.R_away HO423.out (fun _ hk => hk)))) _).trans (((cell_far (p := ⟨gb428, _, none⟩) (by first | exact Kd.own_blk (Kd.R_away HO423.out (fun _ hk => hk)) | (rw [add_block]; exact Kd.own_blk (Kd.R_away HO423.out (fun _ hk => hk))) | (show (Addr.add _ _).block ≠ _; rw [add_block]; exact Kd.own_blk (Kd.R_away HO423.out (fun _ hk => hk))) | (dsimp only; exact Kd.own_blk (Kd.R_away HO423.out (fun _ hk => hk)))) _).trans (hHeld.2.2.2.2))))))⟩ (fun hHeld => ?_)
        clear hK K
        refine done_ (done_of HT_.out (by kernel_rfl)) ?_
        try go_wp2
        have n0_ : Aside0 (Kd.R k35 35 (((w27.setCell ⟨gb428, 0, none⟩ (.int .i64 t425)).setCell ⟨gb428, 1, none⟩ (.int .i64 t426)).setCell ⟨gb428, 2, none⟩ (.int .i64 t427)) w.heap.size (fun k_ => k_ ≠ gb415 ∧ k_ ≠ gb416) (.slice Ao20 y417.length co20) y417) := ⟨by (with_reducible repeat (first | apply Kd.R_alloc | apply Kd.R_drewN | apply Kd.R_drew)); exact Kd.R_mono (Kd.R_far (p := ⟨gb428, 2, none⟩) (Kd.R_far (p := ⟨gb428, 1, none⟩) (Kd.R_far (p := ⟨gb428, 0, none⟩) (Kd.R_types HO419.out BK428.out (by decide)) (fun _ hk => hk.2) (.int .i64 t425)) (fun _ hk => hk.2) (.int .i64 t426)) (fun _ hk => hk.2) (.int .i64 t427)) (fun _ hk => ⟨hk.1.1, hk.1.2⟩)⟩
        have n1_ : Aside0 (Kd.R k70 70 (((w27.setCell ⟨gb428, 0, none⟩ (.int .i64 t425)).setCell ⟨gb428, 1, none⟩ (.int .i64 t426)).setCell ⟨gb428, 2, none⟩ (.int .i64 t427)) w.heap.size (fun k_ => k_ ≠ gb428) (.slice (some ad424) t421.length co24) t421) := ⟨by (with_reducible repeat (first | apply Kd.R_alloc | apply Kd.R_drewN | apply Kd.R_drew)); exact Kd.R_mono (Kd.R_far (p := ⟨gb428, 2, none⟩) (Kd.R_far (p := ⟨gb428, 1, none⟩) (Kd.R_far (p := ⟨gb428, 0, none⟩) (Kd.R_mono HO423.out (fun k_ hk => (⟨hk, hk⟩ : _ ∧ k_ ≠ gb428))) (fun _ hk => hk.2) (.int .i64 t425)) (fun _ hk => hk.2) (.int .i64 t426)) (fun _ hk => hk.2) (.int .i64 t427)) (fun _ hk => hk.1)⟩
        have n2_ : Aside0 ((((w27.setCell ⟨gb428, 0, none⟩ (.int .i64 t425)).setCell ⟨gb428, 1, none⟩ (.int .i64 t426)).setCell ⟨gb428, 2, none⟩ (.int .i64 t427)).heap[gb415]? = some (.cells #[.int .i64 a2_0, .int .i64 a2_1] 35 (0, 0))) := ⟨by (with_reducible repeat (first | refine blk_drewN ?_ _ | refine blk_drew ?_ | refine blk_alloc ?_ _)); refine blk_far ?_ NB415_428.out _; (with_reducible repeat (first | refine blk_drewN ?_ _ | refine blk_drew ?_ | refine blk_alloc ?_ _)); refine blk_far ?_ NB415_428.out _; (with_reducible repeat (first | refine blk_drewN ?_ _ | refine blk_drew ?_ | refine blk_alloc ?_ _)); refine blk_far ?_ NB415_428.out _; (with_reducible repeat (first | refine blk_drewN ?_ _ | refine blk_drew ?_ | refine blk_alloc ?_ _)); exact BK415.out⟩
        have n3_ : Aside0 ((((w27.setCell ⟨gb428, 0, none⟩ (.int .i64 t425)).setCell ⟨gb428, 1, none⟩ (.int .i64 t426)).setCell ⟨gb428, 2, none⟩ (.int .i64 t427)).heap[gb416]? = some (.cells #[.int .i64 a3_0, .int .i64 a3_1] 35 (0, 0))) := ⟨by (with_reducible repeat (first | refine blk_drewN ?_ _ | refine blk_drew ?_ | refine blk_alloc ?_ _)); refine blk_far ?_ NB416_428.out _; (with_reducible repeat (first | refine blk_drewN ?_ _ | refine blk_drew ?_ | refine blk_alloc ?_ _)); refine blk_far ?_ NB416_428.out _; (with_reducible repeat (first | refine blk_drewN ?_ _ | refine blk_drew ?_ | refine blk_alloc ?_ _)); refine blk_far ?_ NB416_428.out _; (with_reducible repeat (first | refine blk_drewN ?_ _ | refine blk_drew ?_ | refine blk_alloc ?_ _)); exact BK416.out⟩
        have n4_ : Aside0 ((((w27.setCell ⟨gb428, 0, none⟩ (.int .i64 t425)).setCell ⟨gb428, 1, none⟩ (.int .i64 t426)).setCell ⟨gb428, 2, none⟩ (.int .i64 t427)).heap[gb428]? = some (.cells #[.int .i64 t425, .int .i64 t426, .int .i64 t427] 70 (0, 0))) := ⟨by (with_reducible repeat (first | refine blk_drewN ?_ _ | refine blk_drew ?_ | refine blk_alloc ?_ _)); refine blk_put (cs := #[.int .i64 t425, .int .i64 t426, .int .i64 0]) ?_ 2 _ rfl; (with_reducible repeat (first | refine blk_drewN ?_ _ | refine blk_drew ?_ | refine blk_alloc ?_ _)); refine blk_put (cs := #[.int .i64 t425, .int .i64 0, .int .i64 0]) ?_ 1 _ rfl; (with_reducible repeat (first | refine blk_drewN ?_ _ | refine blk_drew ?_ | refine blk_alloc ?_ _)); refine blk_put (cs := #[.int .i64 0, .int .i64 0, .int .i64 0]) ?_ 0 _ rfl; (with_reducible repeat (first | refine blk_drewN ?_ _ | refine blk_drew ?_ | refine blk_alloc ?_ _)); exact BK428.out⟩
        have n5_ : Aside0 (Below w.heap.size w (((w27.setCell ⟨gb428, 0, none⟩ (.int .i64 t425)).setCell ⟨gb428, 1, none⟩ (.int .i64 t426)).setCell ⟨gb428, 2, none⟩ (.int .i64 t427))) := ⟨by repeat (first | (with_reducible first | exact HB.out | apply below_alloc | apply pw_below_drewN | apply below_drew1 | refine below_set ?_ GE415.out | refine below_set ?_ GE416.out | refine below_set ?_ GE428.out) | exact HB.out)⟩
        (try clear HO419)
        (try clear HO423)
        (try clear BK415)
        (try clear BK416)
        (try clear BK428)
        (try clear HB)
        generalize (((w27.setCell ⟨gb428, 0, none⟩ (.int .i64 t425)).setCell ⟨gb428, 1, none⟩ (.int .i64 t426)).setCell ⟨gb428, 2, none⟩ (.int .i64 t427)) = w31 at n0_ n1_ n2_ n3_ n4_ n5_ ⊢
        have HO419 := n0_
        have HO423 := n1_
        have BK415 := n2_
        have BK416 := n3_
        have BK428 := n4_
        have HB := n5_
        clear n0_ n1_ n2_ n3_ n4_ n5_
        have n0_ := Aside0.mk (Kd.R_drew HO419.out)
        have n1_ := Aside0.mk (Kd.R_drew HO423.out)
        have n2_ := Aside0.mk (blk_drew BK415.out)
        have n3_ := Aside0.mk (blk_drew BK416.out)
        have n4_ := Aside0.mk (blk_drew BK428.out)
        have n5_ := Aside0.mk (below_drew1 HB.out)
        clear HO419
        clear HO423
        clear BK415
        clear BK416
        clear BK428
        clear HB
        have HO419 := n0_
        have HO423 := n1_
        have BK415 := n2_
        have BK416 := n3_
        have BK428 := n4_
        have HB := n5_
        clear n0_ n1_ n2_ n3_ n4_ n5_
        by_cases c11 : (a2_0 == a3_0 && (a2_1 == a3_1)) = true
        · rw [if_pos c11] at H
          have c11b0 : (a2_0 == a3_0 && (a2_1 == a3_1)) = true := c11
          (try (have c11b1 : decide (a2_0 = a3_0 && (a2_1 == a3_1)) = true := by simpa using c11))
          (try (have c11b2 : (a2_0 == a3_0 && (a2_1 == a3_1)) = true := by simpa using c11))
          clear c11
          by_cases c12 : (t425 == 0 && (t426 == 0 && (t427 == 0))) = true
          · rw [if_pos c12] at H
            have c12b0 : (t425 == 0 && (t426 == 0 && (t427 == 0))) = true := c12
            (try (have c12b1 : decide (t425 = 0 && (t426 == 0 && (t427 == 0))) = true := by simpa using c12))
            (try (have c12b2 : (t425 == 0 && (t426 == 0 && (t427 == 0))) = true := by simpa using c12))
            clear c12
            obtain rfl := Option.some.inj H
            refine start_ (n := 25) (S := fun w' => w'.cell? ⟨gb415, 0, none⟩ = some (.int .i64 a2_0) ∧ w'.cell? ⟨gb415, 1, none⟩ = some (.int .i64 a2_1) ∧ w'.cell? ⟨gb416, 0, none⟩ = some (.int .i64 a3_0) ∧ w'.cell? ⟨gb416, 1, none⟩ = some (.int .i64 a3_1) ∧ w'.cell? ⟨gb428, 0, none⟩ = some (.int .i64 t425) ∧ w'.cell? ⟨gb428, 1, none⟩ = some (.int .i64 t426) ∧ w'.cell? ⟨gb428, 2, none⟩ = some (.int .i64 t427)) (ds := []) #[false, false, false, false, false, false, false, false, false, false, false, false, false, false, false, false, false, false, false, false, false, false, false, false, false] (by kernel_rfl) rfl rfl ⟨(blk_cell BK415.out 0).trans rfl, (blk_cell BK415.out 1).trans rfl, (blk_cell BK416.out 0).trans rfl, (blk_cell BK416.out 1).trans rfl, (blk_cell BK428.out 0).trans rfl, (blk_cell BK428.out 1).trans rfl, (blk_cell BK428.out 2).trans rfl⟩ (fun hHeld => ?_); refine with_tabW weigh_CheckBad.tab6 weigh_CheckBad.bits6 (fun HT_ HW_ => ?_)
            generalize w31.drew = w32 at HO419 HO423 BK415 BK416 BK428 HB hHeld ⊢
            refine take_ (i := 0) (N := some 32) (v := ?_) (a' := ?_) #[true, false, false, false, false, false, false, false, false, false, false, false, false, false, false, false, false, false, false, false, false, false, false, false, false] rfl rfl (take_ofW HT_.out HW_.out (by kernel_rfl)) (fun _ _ _ h => h) (Or.inl ⟨by rfl, ?_⟩) hHeld ?_ ?_
            rotate_left
            · rintro w' ⟨s0, s1, s2, s3, s4, s5, s6⟩
              go_simp
              with_reducible rfl
            rotate_left
            · simp only [Act.put, List.setIfInBounds_toArray, List.set_cons_zero, List.set_cons_succ, i64_w, i32_w]
              rfl
            refine take_ (i := 1) (N := some 33) (v := ?_) (a' := ?_) #[true, true, false, false, false, false, false, false, false, false, false, false, false, false, false, false, false, false, false, false, false, false, false, false, false] rfl rfl (take_ofW HT_.out HW_.out (by kernel_rfl)) (fun _ _ _ h => h) (Or.inl ⟨by rfl, ?_⟩) hHeld ?_ ?_
            rotate_left
            · rintro w' ⟨s0, s1, s2, s3, s4, s5, s6⟩
              go_simp
              with_reducible rfl
            rotate_left
            · simp only [Act.put, List.setIfInBounds_toArray, List.set_cons_zero, List.set_cons_succ, i64_w, i32_w]
              rfl
            refine pure_ (i := 2) (N := some 34) (v := ?_) (a' := ?_) #[true, true, true, false, false, false, false, false, false, false, false, false, false, false, false, false, false, false, false, false, false, false, false, false, false] rfl rfl (any_of HT_.out (by kernel_rfl)) (fun _ _ _ h => h) (Or.inl ⟨by rfl, ?_⟩) ?_ ?_
            rotate_left
            · intro w'
              go_simp
              with_reducible rfl
            rotate_left
            · simp only [Act.put, List.setIfInBounds_toArray, List.set_cons_zero, List.set_cons_succ, i64_w, i32_w]
              rfl
            refine pure_ (i := 3) (N := some 35) (v := ?_) (a' := ?_) #[true, true, true, true, false, false, false, false, false, false, false, false, false, false, false, false, false, false, false, false, false, false, false, false, false] rfl rfl (any_of HT_.out (by kernel_rfl)) (fun _ _ _ h => h) (Or.inl ⟨by rfl, ?_⟩) ?_ ?_
            rotate_left
            · intro w'
              go_simp
              with_reducible rfl
            rotate_left
            · simp only [Act.put, List.setIfInBounds_toArray, List.set_cons_zero, List.set_cons_succ, i64_w, i32_w]
              rfl
            refine pure_ (i := 5) (N := some 37) (v := ?_) (a' := ?_) #[true, true, true, true, false, true, false, false, false, false, false, false, false, false, false, false, false, false, false, false, false, false, false, false, false] rfl rfl (any_of HT_.out (by kernel_rfl)) (fun _ _ _ h => h) (Or.inl ⟨by rfl, ?_⟩) ?_ ?_
            rotate_left
            · intro w'
              go_simp
              with_reducible rfl
            rotate_left
            · simp only [Act.put, List.setIfInBounds_toArray, List.set_cons_zero, List.set_cons_succ, i64_w, i32_w]
              rfl
            refine take_ (i := 4) (N := some 36) (v := ?_) (a' := ?_) #[true, true, true, true, true, true, false, false, false, false, false, false, false, false, false, false, false, false, false, false, false, false, false, false, false] rfl rfl (take_ofW HT_.out HW_.out (by kernel_rfl)) (fun _ _ _ h => h) (Or.inl ⟨by rfl, ?_⟩) hHeld ?_ ?_
            rotate_left
            · rintro w' ⟨s0, s1, s2, s3, s4, s5, s6⟩
              go_simp
              with_reducible rfl
            rotate_left
            · simp only [Act.put, List.setIfInBounds_toArray, List.set_cons_zero, List.set_cons_succ, i64_w, i32_w]
              rfl
            refine pure_ (i := 6) (N := some 38) (v := ?_) (a' := ?_) #[true, true, true, true, true, true, true, false, false, false, false, false, false, false, false, false, false, false, false, false, false, false, false, false, false] rfl rfl (any_of HT_.out (by kernel_rfl)) (fun _ _ _ h => h) (Or.inl ⟨by rfl, ?_⟩) ?_ ?_
            rotate_left
            · intro w'
              go_simp
              with_reducible rfl
            rotate_left
            · simp only [Act.put, List.setIfInBounds_toArray, List.set_cons_zero, List.set_cons_succ, i64_w, i32_w]
              rfl
            refine pure_ (i := 7) (N := some 39) (v := ?_) (a' := ?_) #[true, true, true, true, true, true, true, true, false, false, false, false, false, false, false, false, false, false, false, false, false, false, false, false, false] rfl rfl (any_of HT_.out (by kernel_rfl)) (fun _ _ _ h => h) (Or.inl ⟨by rfl, ?_⟩) ?_ ?_
            rotate_left
            · intro w'
              go_simp
              with_reducible rfl
            rotate_left
            · simp only [Act.put, List.setIfInBounds_toArray, List.set_cons_zero, List.set_cons_succ, i64_w, i32_w]
              rfl
            refine pure_ (i := 8) (N := some 40) (v := ?_) (a' := ?_) #[true, true, true, true, true, true, true, true, true, false, false, false, false, false, false, false, false, false, false, false, false, false, false, false, false] rfl rfl (any_of HT_.out (by kernel_rfl)) (fun _ _ _ h => h) (Or.inl ⟨by rfl, ?_⟩) ?_ ?_
            rotate_left
            · intro w'
              go_simp
              with_reducible rfl
            rotate_left
            · simp only [Act.put, List.setIfInBounds_toArray, List.set_cons_zero, List.set_cons_succ, i64_w, i32_w]
              rfl
            refine pure_ (i := 9) (N := some 41) (v := undef) (a' := ?_) #[true, true, true, true, true, true, true, true, true, true, false, false, false, false, false, false, false, false, false, false, false, false, false, false, false] rfl rfl (any_of HT_.out (by kernel_rfl)) (fun _ _ _ h => h) (Or.inr ⟨by rfl, rfl⟩) ?_ ?_
            rotate_left
            · simp only [Act.put, List.setIfInBounds_toArray, List.set_cons_zero, List.set_cons_succ, i64_w, i32_w]
              rfl
            refine pure_ (i := 10) (N := some 42) (v := undef) (a' := ?_) #[true, true, true, true, true, true, true, true, true, true, true, false, false, false, false, false, false, false, false, false, false, false, false, false, false] rfl rfl (any_of HT_.out (by kernel_rfl)) (fun _ _ _ h => h) (Or.inr ⟨by rfl, rfl⟩) ?_ ?_
            rotate_left
            · simp only [Act.put, List.setIfInBounds_toArray, List.set_cons_zero, List.set_cons_succ, i64_w, i32_w]
              rfl
            refine pure_ (i := 11) (N := some 43) (v := undef) (a' := ?_) #[true, true, true, true, true, true, true, true, true, true, true, true, false, false, false, false, false, false, false, false, false, false, false, false, false] rfl rfl (any_of HT_.out (by kernel_rfl)) (fun _ _ _ h => h) (Or.inr ⟨by rfl, rfl⟩) ?_ ?_
            rotate_left
            · simp only [Act.put, List.setIfInBounds_toArray, List.set_cons_zero, List.set_cons_succ, i64_w, i32_w]
              rfl
            refine pure_ (i := 12) (N := some 44) (v := undef) (a' := ?_) #[true, true, true, true, true, true, true, true, true, true, true, true, true, false, false, false, false, false, false, false, false, false, false, false, false] rfl rfl (any_of HT_.out (by kernel_rfl)) (fun _ _ _ h => h) (Or.inr ⟨by rfl, rfl⟩) ?_ ?_
            rotate_left
            · simp only [Act.put, List.setIfInBounds_toArray, List.set_cons_zero, List.set_cons_succ, i64_w, i32_w]
              rfl
            refine pure_ (i := 13) (N := some 45) (v := undef) (a' := ?_) #[true, true, true, true, true, true, true, true, true, true, true, true, true, true, false, false, false, false, false, false, false, false, false, false, false] rfl rfl (any_of HT_.out (by kernel_rfl)) (fun _ _ _ h => h) (Or.inr ⟨by rfl, rfl⟩) ?_ ?_
            rotate_left
            · simp only [Act.put, List.setIfInBounds_toArray, List.set_cons_zero, List.set_cons_succ, i64_w, i32_w]
              rfl
            refine pure_ (i := 14) (N := some 46) (v := undef) (a' := ?_) #[true, true, true, true, true, true, true, true, true, true, true, true, true, true, true, false, false, false, false, false, false, false, false, false, false] rfl rfl (any_of HT_.out (by kernel_rfl)) (fun _ _ _ h => h) (Or.inr ⟨by rfl, rfl⟩) ?_ ?_
            rotate_left
            · simp only [Act.put, List.setIfInBounds_toArray, List.set_cons_zero, List.set_cons_succ, i64_w, i32_w]
              rfl
            refine pure_ (i := 15) (N := some 47) (v := undef) (a' := ?_) #[true, true, true, true, true, true, true, true, true, true, true, true, true, true, true, true, false, false, false, false, false, false, false, false, false] rfl rfl (any_of HT_.out (by kernel_rfl)) (fun _ _ _ h => h) (Or.inr ⟨by rfl, rfl⟩) ?_ ?_
            rotate_left
            · simp only [Act.put, List.setIfInBounds_toArray, List.set_cons_zero, List.set_cons_succ, i64_w, i32_w]
              rfl
            refine pure_ (i := 16) (N := some 48) (v := undef) (a' := ?_) #[true, true, true, true, true, true, true, true, true, true, true, true, true, true, true, true, true, false, false, false, false, false, false, false, false] rfl rfl (any_of HT_.out (by kernel_rfl)) (fun _ _ _ h => h) (Or.inr ⟨by rfl, rfl⟩) ?_ ?_
            rotate_left
            · simp only [Act.put, List.setIfInBounds_toArray, List.set_cons_zero, List.set_cons_succ, i64_w, i32_w]
              rfl
            refine pure_ (i := 17) (N := some 49) (v := undef) (a' := ?_) #[true, true, true, true, true, true, true, true, true, true, true, true, true, true, true, true, true, true, false, false, false, false, false, false, false] rfl rfl (any_of HT_.out (by kernel_rfl)) (fun _ _ _ h => h) (Or.inr ⟨by rfl, rfl⟩) ?_ ?_
            rotate_left
            · simp only [Act.put, List.setIfInBounds_toArray, List.set_cons_zero, List.set_cons_succ, i64_w, i32_w]
              rfl
            refine pure_ (i := 18) (N := some 50) (v := undef) (a' := ?_) #[true, true, true, true, true, true, true, true, true, true, true, true, true, true, true, true, true, true, true, false, false, false, false, false, false] rfl rfl (any_of HT_.out (by kernel_rfl)) (fun _ _ _ h => h) (Or.inr ⟨by rfl, rfl⟩) ?_ ?_
            rotate_left
            · simp only [Act.put, List.setIfInBounds_toArray, List.set_cons_zero, List.set_cons_succ, i64_w, i32_w]
              rfl
            refine pure_ (i := 19) (N := some 51) (v := undef) (a' := ?_) #[true, true, true, true, true, true, true, true, true, true, true, true, true, true, true, true, true, true, true, true, false, false, false, false, false] rfl rfl (any_of HT_.out (by kernel_rfl)) (fun _ _ _ h => h) (Or.inr ⟨by rfl, rfl⟩) ?_ ?_
            rotate_left
            · simp only [Act.put, List.setIfInBounds_toArray, List.set_cons_zero, List.set_cons_succ, i64_w, i32_w]
              rfl
            refine pure_ (i := 20) (N := some 52) (v := undef) (a' := ?_) #[true, true, true, true, true, true, true, true, true, true, true, true, true, true, true, true, true, true, true, true, true, false, false, false, false] rfl rfl (any_of HT_.out (by kernel_rfl)) (fun _ _ _ h => h) (Or.inr ⟨by rfl, rfl⟩) ?_ ?_
            rotate_left
            · simp only [Act.put, List.setIfInBounds_toArray, List.set_cons_zero, List.set_cons_succ, i64_w, i32_w]
              rfl
            refine pure_ (i := 21) (N := some 53) (v := undef) (a' := ?_) #[true, true, true, true, true, true, true, true, true, true, true, true, true, true, true, true, true, true, true, true, true, true, false, false, false] rfl rfl (any_of HT_.out (by kernel_rfl)) (fun _ _ _ h => h) (Or.inr ⟨by rfl, rfl⟩) ?_ ?_
            rotate_left
            · simp only [Act.put, List.setIfInBounds_toArray, List.set_cons_zero, List.set_cons_succ, i64_w, i32_w]
              rfl
            refine pure_ (i := 22) (N := some 54) (v := undef) (a' := ?_) #[true, true, true, true, true, true, true, true, true, true, true, true, true, true, true, true, true, true, true, true, true, true, true, false, false] rfl rfl (any_of HT_.out (by kernel_rfl)) (fun _ _ _ h => h) (Or.inr ⟨by rfl, rfl⟩) ?_ ?_
            rotate_left
            · simp only [Act.put, List.setIfInBounds_toArray, List.set_cons_zero, List.set_cons_succ, i64_w, i32_w]
              rfl
            refine pure_ (i := 23) (N := some 55) (v := undef) (a' := ?_) #[true, true, true, true, true, true, true, true, true, true, true, true, true, true, true, true, true, true, true, true, true, true, true, true, false] rfl rfl (any_of HT_.out (by kernel_rfl)) (fun _ _ _ h => h) (Or.inr ⟨by rfl, rfl⟩) ?_ ?_
            rotate_left
            · simp only [Act.put, List.setIfInBounds_toArray, List.set_cons_zero, List.set_cons_succ, i64_w, i32_w]
              rfl
            refine pure_ (i := 24) (N := some 56) (v := ?_) (a' := ?_) #[true, true, true, true, true, true, true, true, true, true, true, true, true, true, true, true, true, true, true, true, true, true, true, true, true] rfl rfl (any_of HT_.out (by kernel_rfl)) (fun _ _ _ h => h) (Or.inl ⟨by rfl, ?_⟩) ?_ ?_
            rotate_left
            · intro w'
              go_simp
              with_reducible rfl
            rotate_left
            · simp only [Act.put, List.setIfInBounds_toArray, List.set_cons_zero, List.set_cons_succ, i64_w, i32_w]
              rfl
            refine done_ (done_of HT_.out (by kernel_rfl)) ?_
            try go_wp2
            go_ret
            exact ⟨by first | rfl | (simp [errW_none, errW_some] <;> rfl) | (simp [*, errW_none, errW_some] <;> rfl), by repeat (first | (with_reducible first | exact HB.out | apply below_alloc | apply pw_below_drewN | apply below_drew1 | refine below_set ?_ GE415.out | refine below_set ?_ GE416.out | refine below_set ?_ GE428.out) | exact HB.out)⟩
          · rw [if_neg c12] at H
            have c12b0 : (t425 == 0 && (t426 == 0 && (t427 == 0))) = false := by simpa using c12
            (try (have c12b1 : decide (t425 = 0 && (t426 == 0 && (t427 == 0))) = false := by simpa using c12))
            (try (have c12b2 : (t425 == 0 && (t426 == 0 && (t427 == 0))) = false := by simpa using c12))
            (try (have c12b3 : ¬ (t425 = 0 && (t426 == 0 && (t427 == 0))) := by simpa using c12))
            clear c12
            by_cases c33 : (!(a2_0 == a3_0) || (!(a2_1 == a3_1))) = true
            · exfalso
              revert c11b0 c33
              cases (a2_0 == a3_0) <;> cases (a2_1 == a3_1) <;> simp
            · rw [if_neg c33] at H
              have c33b0 : (!(a2_0 == a3_0) || (!(a2_1 == a3_1))) = false := by simpa using c33
              clear c33
              obtain rfl := Option.some.inj H
              refine start_ (n := 25) (S := fun w' => w'.cell? ⟨gb415, 0, none⟩ = some (.int .i64 a2_0) ∧ w'.cell? ⟨gb415, 1, none⟩ = some (.int .i64 a2_1) ∧ w'.cell? ⟨gb416, 0, none⟩ = some (.int .i64 a3_0) ∧ w'.cell? ⟨gb416, 1, none⟩ = some (.int .i64 a3_1) ∧ w'.cell? ⟨gb428, 0, none⟩ = some (.int .i64 t425) ∧ w'.cell? ⟨gb428, 1, none⟩ = some (.int .i64 t426) ∧ w'.cell? ⟨gb428, 2, none⟩ = some (.int .i64 t427)) (ds := []) #[false, false, false, false, false, false, false, false, false, false, false, false, false, false, false, false, false, false, false, false, false, false, false, false, false] (by kernel_rfl) rfl rfl ⟨(blk_cell BK415.out 0).trans rfl, (blk_cell BK415.out 1).trans rfl, (blk_cell BK416.out 0).trans rfl, (blk_cell BK416.out 1).trans rfl, (blk_cell BK428.out 0).trans rfl, (blk_cell BK428.out 1).trans rfl, (blk_cell BK428.out 2).trans rfl⟩ (fun hHeld => ?_); refine with_tabW weigh_CheckBad.tab6 weigh_CheckBad.bits6 (fun HT_ HW_ => ?_)
              generalize w31.drew = w99 at HO419 HO423 BK415 BK416 BK428 HB hHeld ⊢
              refine take_ (i := 0) (N := some 32) (v := ?_) (a' := ?_) #[true, false, false, false, false, false, false, false, false, false, false, false, false, false, false, false, false, false, false, false, false, false, false, false, false] rfl rfl (take_ofW HT_.out HW_.out (by kernel_rfl)) (fun _ _ _ h => h) (Or.inl ⟨by rfl, ?_⟩) hHeld ?_ ?_
              rotate_left
              · rintro w' ⟨s0, s1, s2, s3, s4, s5, s6⟩
                go_simp
                with_reducible rfl
              rotate_left
              · simp only [Act.put, List.setIfInBounds_toArray, List.set_cons_zero, List.set_cons_succ, i64_w, i32_w]
                rfl
              refine take_ (i := 1) (N := some 33) (v := ?_) (a' := ?_) #[true, true, false, false, false, false, false, false, false, false, false, false, false, false, false, false, false, false, false, false, false, false, false, false, false] rfl rfl (take_ofW HT_.out HW_.out (by kernel_rfl)) (fun _ _ _ h => h) (Or.inl ⟨by rfl, ?_⟩) hHeld ?_ ?_
              rotate_left
              · rintro w' ⟨s0, s1, s2, s3, s4, s5, s6⟩
                go_simp
                with_reducible rfl
              rotate_left
              · simp only [Act.put, List.setIfInBounds_toArray, List.set_cons_zero, List.set_cons_succ, i64_w, i32_w]
                rfl
              refine pure_ (i := 2) (N := some 34) (v := ?_) (a' := ?_) #[true, true, true, false, false, false, false, false, false, false, false, false, false, false, false, false, false, false, false, false, false, false, false, false, false] rfl rfl (any_of HT_.out (by kernel_rfl)) (fun _ _ _ h => h) (Or.inl ⟨by rfl, ?_⟩) ?_ ?_
              rotate_left
              · intro w'
                go_simp
                with_reducible rfl
              rotate_left
              · simp only [Act.put, List.setIfInBounds_toArray, List.set_cons_zero, List.set_cons_succ, i64_w, i32_w]
                rfl
              refine pure_ (i := 3) (N := some 35) (v := ?_) (a' := ?_) #[true, true, true, true, false, false, false, false, false, false, false, false, false, false, false, false, false, false, false, false, false, false, false, false, false] rfl rfl (any_of HT_.out (by kernel_rfl)) (fun _ _ _ h => h) (Or.inl ⟨by rfl, ?_⟩) ?_ ?_
              rotate_left
              · intro w'
                go_simp
                with_reducible rfl
              rotate_left
              · simp only [Act.put, List.setIfInBounds_toArray, List.set_cons_zero, List.set_cons_succ, i64_w, i32_w]
                rfl
              refine pure_ (i := 5) (N := some 37) (v := ?_) (a' := ?_) #[true, true, true, true, false, true, false, false, false, false, false, false, false, false, false, false, false, false, false, false, false, false, false, false, false] rfl rfl (any_of HT_.out (by kernel_rfl)) (fun _ _ _ h => h) (Or.inl ⟨by rfl, ?_⟩) ?_ ?_
              rotate_left
              · intro w'
                go_simp
                with_reducible rfl
              rotate_left
              · simp only [Act.put, List.setIfInBounds_toArray, List.set_cons_zero, List.set_cons_succ, i64_w, i32_w]
                rfl
              refine take_ (i := 4) (N := some 36) (v := ?_) (a' := ?_) #[true, true, true, true, true, true, false, false, false, false, false, false, false, false, false, false, false, false, false, false, false, false, false, false, false] rfl rfl (take_ofW HT_.out HW_.out (by kernel_rfl)) (fun _ _ _ h => h) (Or.inl ⟨by rfl, ?_⟩) hHeld ?_ ?_
              rotate_left
              · rintro w' ⟨s0, s1, s2, s3, s4, s5, s6⟩
                go_simp
                with_reducible rfl
              rotate_left
              · simp only [Act.put, List.setIfInBounds_toArray, List.set_cons_zero, List.set_cons_succ, i64_w, i32_w]
                rfl
              refine pure_ (i := 6) (N := some 38) (v := ?_) (a' := ?_) #[true, true, true, true, true, true, true, false, false, false, false, false, false, false, false, false, false, false, false, false, false, false, false, false, false] rfl rfl (any_of HT_.out (by kernel_rfl)) (fun _ _ _ h => h) (Or.inl ⟨by rfl, ?_⟩) ?_ ?_
              rotate_left
              · intro w'
                go_simp
                with_reducible rfl
              rotate_left
              · simp only [Act.put, List.setIfInBounds_toArray, List.set_cons_zero, List.set_cons_succ, i64_w, i32_w]
                rfl
              refine pure_ (i := 7) (N := some 39) (v := ?_) (a' := ?_) #[true, true, true, true, true, true, true, true, false, false, false, false, false, false, false, false, false, false, false, false, false, false, false, false, false] rfl rfl (any_of HT_.out (by kernel_rfl)) (fun _ _ _ h => h) (Or.inl ⟨by rfl, ?_⟩) ?_ ?_
              rotate_left
              · intro w'
                go_simp
                with_reducible rfl
              rotate_left
              · simp only [Act.put, List.setIfInBounds_toArray, List.set_cons_zero, List.set_cons_succ, i64_w, i32_w]
                rfl
              refine pure_ (i := 8) (N := some 40) (v := ?_) (a' := ?_) #[true, true, true, true, true, true, true, true, true, false, false, false, false, false, false, false, false, false, false, false, false, false, false, false, false] rfl rfl (any_of HT_.out (by kernel_rfl)) (fun _ _ _ h => h) (Or.inl ⟨by rfl, ?_⟩) ?_ ?_
              rotate_left
              · intro w'
                go_simp
                with_reducible rfl
              rotate_left
              · simp only [Act.put, List.setIfInBounds_toArray, List.set_cons_zero, List.set_cons_succ, i64_w, i32_w]
                rfl
              refine take_ (i := 9) (N := some 41) (v := ?_) (a' := ?_) #[true, true, true, true, true, true, true, true, true, true, false, false, false, false, false, false, false, false, false, false, false, false, false, false, false] rfl rfl (take_ofW HT_.out HW_.out (by kernel_rfl)) (fun _ _ _ h => h) (Or.inl ⟨by rfl, ?_⟩) hHeld ?_ ?_
              rotate_left
              · rintro w' ⟨s0, s1, s2, s3, s4, s5, s6⟩
                go_simp
                with_reducible rfl
              rotate_left
              · simp only [Act.put, List.setIfInBounds_toArray, List.set_cons_zero, List.set_cons_succ, i64_w, i32_w]
                rfl
              refine take_ (i := 10) (N := some 42) (v := ?_) (a' := ?_) #[true, true, true, true, true, true, true, true, true, true, true, false, false, false, false, false, false, false, false, false, false, false, false, false, false] rfl rfl (take_ofW HT_.out HW_.out (by kernel_rfl)) (fun _ _ _ h => h) (Or.inl ⟨by rfl, ?_⟩) hHeld ?_ ?_
              rotate_left
              · rintro w' ⟨s0, s1, s2, s3, s4, s5, s6⟩
                go_simp
                with_reducible rfl
              rotate_left
              · simp only [Act.put, List.setIfInBounds_toArray, List.set_cons_zero, List.set_cons_succ, i64_w, i32_w]
                rfl
              refine pure_ (i := 11) (N := some 43) (v := ?_) (a' := ?_) #[true, true, true, true, true, true, true, true, true, true, true, true, false, false, false, false, false, false, false, false, false, false, false, false, false] rfl rfl (any_of HT_.out (by kernel_rfl)) (fun _ _ _ h => h) (Or.inl ⟨by rfl, ?_⟩) ?_ ?_
              rotate_left
              · intro w'
                go_simp
                with_reducible rfl
              rotate_left
              · simp only [Act.put, List.setIfInBounds_toArray, List.set_cons_zero, List.set_cons_succ, i64_w, i32_w]
                rfl
              refine pure_ (i := 12) (N := some 44) (v := ?_) (a' := ?_) #[true, true, true, true, true, true, true, true, true, true, true, true, true, false, false, false, false, false, false, false, false, false, false, false, false] rfl rfl (any_of HT_.out (by kernel_rfl)) (fun _ _ _ h => h) (Or.inl ⟨by rfl, ?_⟩) ?_ ?_
              rotate_left
              · intro w'
                go_simp
                with_reducible rfl
              rotate_left
              · simp only [Act.put, List.setIfInBounds_toArray, List.set_cons_zero, List.set_cons_succ, i64_w, i32_w]
                rfl
              refine pure_ (i := 13) (N := some 45) (v := undef) (a' := ?_) #[true, true, true, true, true, true, true, true, true, true, true, true, true, true, false, false, false, false, false, false, false, false, false, false, false] rfl rfl (any_of HT_.out (by kernel_rfl)) (fun _ _ _ h => h) (Or.inr ⟨by rfl, rfl⟩) ?_ ?_
              rotate_left
              · simp only [Act.put, List.setIfInBounds_toArray, List.set_cons_zero, List.set_cons_succ, i64_w, i32_w]
                rfl
              refine pure_ (i := 14) (N := some 46) (v := undef) (a' := ?_) #[true, true, true, true, true, true, true, true, true, true, true, true, true, true, true, false, false, false, false, false, false, false, false, false, false] rfl rfl (any_of HT_.out (by kernel_rfl)) (fun _ _ _ h => h) (Or.inr ⟨by rfl, rfl⟩) ?_ ?_
              rotate_left
              · simp only [Act.put, List.setIfInBounds_toArray, List.set_cons_zero, List.set_cons_succ, i64_w, i32_w]
                rfl
              refine pure_ (i := 15) (N := some 47) (v := undef) (a' := ?_) #[true, true, true, true, true, true, true, true, true, true, true, true, true, true, true, true, false, false, false, false, false, false, false, false, false] rfl rfl (any_of HT_.out (by kernel_rfl)) (fun _ _ _ h => h) (Or.inr ⟨by rfl, rfl⟩) ?_ ?_
              rotate_left
              · simp only [Act.put, List.setIfInBounds_toArray, List.set_cons_zero, List.set_cons_succ, i64_w, i32_w]
                rfl
              refine pure_ (i := 16) (N := some 48) (v := undef) (a' := ?_) #[true, true, true, true, true, true, true, true, true, true, true, true, true, true, true, true, true, false, false, false, false, false, false, false, false] rfl rfl (any_of HT_.out (by kernel_rfl)) (fun _ _ _ h => h) (Or.inr ⟨by rfl, rfl⟩) ?_ ?_
              rotate_left
              · simp only [Act.put, List.setIfInBounds_toArray, List.set_cons_zero, List.set_cons_succ, i64_w, i32_w]
                rfl
              refine pure_ (i := 17) (N := some 49) (v := undef) (a' := ?_) #[true, true, true, true, true, true, true, true, true, true, true, true, true, true, true, true, true, true, false, false, false, false, false, false, false] rfl rfl (any_of HT_.out (by kernel_rfl)) (fun _ _ _ h => h) (Or.inr ⟨by rfl, rfl⟩) ?_ ?_
              rotate_left
              · simp only [Act.put, List.setIfInBounds_toArray, List.set_cons_zero, List.set_cons_succ, i64_w, i32_w]
                rfl
              refine pure_ (i := 18) (N := some 50) (v := undef) (a' := ?_) #[true, true, true, true, true, true, true, true, true, true, true, true, true, true, true, true, true, true, true, false, false, false, false, false, false] rfl rfl (any_of HT_.out (by kernel_rfl)) (fun _ _ _ h => h) (Or.inr ⟨by rfl, rfl⟩) ?_ ?_
              rotate_left
              · simp only [Act.put, List.setIfInBounds_toArray, List.set_cons_zero, List.set_cons_succ, i64_w, i32_w]
                rfl
              refine pure_ (i := 19) (N := some 51) (v := undef) (a' := ?_) #[true, true, true, true, true, true, true, true, true, true, true, true, true, true, true, true, true, true, true, true, false, false, false, false, false] rfl rfl (any_of HT_.out (by kernel_rfl)) (fun _ _ _ h => h) (Or.inr ⟨by rfl, rfl⟩) ?_ ?_
              rotate_left
              · simp only [Act.put, List.setIfInBounds_toArray, List.set_cons_zero, List.set_cons_succ, i64_w, i32_w]
                rfl
              refine pure_ (i := 20) (N := some 52) (v := undef) (a' := ?_) #[true, true, true, true, true, true, true, true, true, true, true, true, true, true, true, true, true, true, true, true, true, false, false, false, false] rfl rfl (any_of HT_.out (by kernel_rfl)) (fun _ _ _ h => h) (Or.inr ⟨by rfl, rfl⟩) ?_ ?_
              rotate_left
              · simp only [Act.put, List.setIfInBounds_toArray, List.set_cons_zero, List.set_cons_succ, i64_w, i32_w]
                rfl
              refine pure_ (i := 21) (N := some 53) (v := undef) (a' := ?_) #[true, true, true, true, true, true, true, true, true, true, true, true, true, true, true, true, true, true, true, true, true, true, false, false, false] rfl rfl (any_of HT_.out (by kernel_rfl)) (fun _ _ _ h => h) (Or.inr ⟨by rfl, rfl⟩) ?_ ?_
              rotate_left
              · simp only [Act.put, List.setIfInBounds_toArray, List.set_cons_zero, List.set_cons_succ, i64_w, i32_w]
                rfl
              refine pure_ (i := 22) (N := some 54) (v := undef) (a' := ?_) #[true, true, true, true, true, true, true, true, true, true, true, true, true, true, true, true, true, true, true, true, true, true, true, false, false] rfl rfl (any_of HT_.out (by kernel_rfl)) (fun _ _ _ h => h) (Or.inr ⟨by rfl, rfl⟩) ?_ ?_
              rotate_left
              · simp only [Act.put, List.setIfInBounds_toArray, List.set_cons_zero, List.set_cons_succ, i64_w, i32_w]
                rfl
              refine pure_ (i := 23) (N := some 55) (v := ?_) (a' := ?_) #[true, true, true, true, true, true, true, true, true, true, true, true, true, true, true, true, true, true, true, true, true, true, true, true, false] rfl rfl (any_of HT_.out (by kernel_rfl)) (fun _ _ _ h => h) (Or.inl ⟨by rfl, ?_⟩) ?_ ?_
              rotate_left
              · intro w'
                go_simp
                with_reducible rfl
              rotate_left
              · simp only [Act.put, List.setIfInBounds_toArray, List.set_cons_zero, List.set_cons_succ, i64_w, i32_w]
                rfl
              refine pure_ (i := 24) (N := some 56) (v := ?_) (a' := ?_) #[true, true, true, true, true, true, true, true, true, true, true, true, true, true, true, true, true, true, true, true, true, true, true, true, true] rfl rfl (any_of HT_.out (by kernel_rfl)) (fun _ _ _ h => h) (Or.inl ⟨by rfl, ?_⟩) ?_ ?_
              rotate_left
              · intro w'
                go_simp
                with_reducible rfl
              rotate_left
              · simp only [Act.put, List.setIfInBounds_toArray, List.set_cons_zero, List.set_cons_succ, i64_w, i32_w]
                rfl
              refine done_ (done_of HT_.out (by kernel_rfl)) ?_
              try go_wp2
              go_ret
              exact ⟨by first | rfl | (simp [errW_none, errW_some] <;> rfl) | (simp [*, errW_none, errW_some] <;> rfl), by repeat (first | (with_reducible first | exact HB.out | apply below_alloc | apply pw_below_drewN | apply below_drew1 | refine below_set ?_ GE415.out | refine below_set ?_ GE416.out | refine below_set ?_ GE428.out) | exact HB.out)⟩
        · rw [if_neg c11] at H
          have c11b0 : (a2_0 == a3_0 && (a2_1 == a3_1)) = false := by simpa using c11
          (try (have c11b1 : decide (a2_0 = a3_0 && (a2_1 == a3_1)) = false := by simpa using c11))
          (try (have c11b2 : (a2_0 == a3_0 && (a2_1 == a3_1)) = false := by simpa using c11))
          (try (have c11b3 : ¬ (a2_0 = a3_0 && (a2_1 == a3_1)) := by simpa using c11))
          clear c11
          by_cases c100 : (!(a2_0 == a3_0) || (!(a2_1 == a3_1))) = true
          · rw [if_pos c100] at H
            have c100b0 : (!(a2_0 == a3_0) || (!(a2_1 == a3_1))) = true := c100
            clear c100
            by_cases c101 : 0 ≤ a3_0
            · rw [if_pos c101] at H
              have c101b0 : decide (0 ≤ a3_0) = true := decide_eq_true c101
              clear c101
              by_cases c102 : a3_0 < (t421.length : Int)
              · rw [if_pos c102] at H
                have c102b0 : decide (a3_0 < (t421.length : Int)) = true := decide_eq_true c102
                clear c102
                replace H := Option.bind_eq_some_iff.mp H
                obtain ⟨⟨t434, t435, t436⟩, A1030, H⟩ := H
                replace H : (if (t425 == t434 && (t426 == t435 && (t427 == t436))) = true then (some 0) else (some 7)) = some r := H
                have A103 := Aside0.mk A1030
                clear A1030
                by_cases c104 : (t425 == t434 && (t426 == t435 && (t427 == t436))) = true
                · rw [if_pos c104] at H
                  have c104b0 : (t425 == t434 && (t426 == t435 && (t427 == t436))) = true := c104
                  (try (have c104b1 : decide (t425 = t434 && (t426 == t435 && (t427 == t436))) = true := by simpa using c104))
                  (try (have c104b2 : (t425 == t434 && (t426 == t435 && (t427 == t436))) = true := by simpa using c104))
                  clear c104
                  obtain rfl := Option.some.inj H
                  have p433 : 0 ≤ (a3_0 : Int) := of_decide_eq_true (by first | (with_reducible assumption) | assumption)
                  have q433 : a3_0 < (t421.length : Int) := of_decide_eq_true (by first | (with_reducible assumption) | assumption)
                  obtain ⟨ad433, e433, hx433_0, hx433_1, hx433_2⟩ := at_T70 (Kd.R_reads' HO423.out).2.2 a3_0 p433 q433
                  obtain rfl : ad424 = ad433 := (by injection e433)
                  replace p433 := eq_true p433
                  replace q433 := eq_true q433
                  refine start_ (n := 25) (S := fun w' => w'.cell? ⟨gb415, 0, none⟩ = some (.int .i64 a2_0) ∧ w'.cell? ⟨gb415, 1, none⟩ = some (.int .i64 a2_1) ∧ w'.cell? ⟨gb416, 0, none⟩ = some (.int .i64 a3_0) ∧ w'.cell? ⟨gb416, 1, none⟩ = some (.int .i64 a3_1) ∧ w'.cell? ⟨gb428, 0, none⟩ = some (.int .i64 t425) ∧ w'.cell? ⟨gb428, 1, none⟩ = some (.int .i64 t426) ∧ w'.cell? ⟨gb428, 2, none⟩ = some (.int .i64 t427) ∧ w'.cell? (ad424.add ((a3_0).toNat * 3)) = some (.int .i64 ((rd_T70 t421 a3_0).f0)) ∧ w'.cell? ⟨(ad424.add ((a3_0).toNat * 3)).block, (ad424.add ((a3_0).toNat * 3)).off + 1, none⟩ = some (.int .i64 ((rd_T70 t421 a3_0).f1)) ∧ w'.cell? ⟨(ad424.add ((a3_0).toNat * 3)).block, (ad424.add ((a3_0).toNat * 3)).off + 2, none⟩ = some (.int .i64 ((rd_T70 t421 a3_0).f2))) (ds := []) #[false, false, false, false, false, false, false, false, false, false, false, false, false, false, false, false, false, false, false, false, false, false, false, false, false] (by kernel_rfl) rfl rfl ⟨(blk_cell BK415.out 0).trans rfl, (blk_cell BK415.out 1).trans rfl, (blk_cell BK416.out 0).trans rfl, (blk_cell BK416.out 1).trans rfl, (blk_cell BK428.out 0).trans rfl, (blk_cell BK428.out 1).trans rfl, (blk_cell BK428.out 2).trans rfl, hx433_0, hx433_1, hx433_2⟩ (fun hHeld => ?_); refine with_tabW weigh_CheckBad.tab6 weigh_CheckBad.bits6 (fun HT_ HW_ => ?_)
                  generalize w31.drew = w124 at HO419 HO423 BK415 BK416 BK428 HB hx433_0 hx433_1 hx433_2 hHeld ⊢
                  refine take_ (i := 0) (N := some 32) (v := ?_) (a' := ?_) #[true, false, false, false, false, false, false, false, false, false, false, false, false, false, false, false, false, false, false, false, false, false, false, false, false] rfl rfl (take_ofW HT_.out HW_.out (by kernel_rfl)) (fun _ _ _ h => h) (Or.inl ⟨by rfl, ?_⟩) hHeld ?_ ?_
                  rotate_left
                  · rintro w' ⟨s0, s1, s2, s3, s4, s5, s6, s7, s8, s9⟩
                    go_simp
                    with_reducible rfl
                  rotate_left
                  · simp only [Act.put, List.setIfInBounds_toArray, List.set_cons_zero, List.set_cons_succ, i64_w, i32_w]
                    rfl
                  refine take_ (i := 1) (N := some 33) (v := ?_) (a' := ?_) #[true, true, false, false, false, false, false, false, false, false, false, false, false, false, false, false, false, false, false, false, false, false, false, false, false] rfl rfl (take_ofW HT_.out HW_.out (by kernel_rfl)) (fun _ _ _ h => h) (Or.inl ⟨by rfl, ?_⟩) hHeld ?_ ?_
                  rotate_left
                  · rintro w' ⟨s0, s1, s2, s3, s4, s5, s6, s7, s8, s9⟩
                    go_simp
                    with_reducible rfl
                  rotate_left
                  · simp only [Act.put, List.setIfInBounds_toArray, List.set_cons_zero, List.set_cons_succ, i64_w, i32_w]
                    rfl
                  refine pure_ (i := 2) (N := some 34) (v := ?_) (a' := ?_) #[true, true, true, false, false, false, false, false, false, false, false, false, false, false, false, false, false, false, false, false, false, false, false, false, false] rfl rfl (any_of HT_.out (by kernel_rfl)) (fun _ _ _ h => h) (Or.inl ⟨by rfl, ?_⟩) ?_ ?_
                  rotate_left
                  · intro w'
                    go_simp
                    with_reducible rfl
                  rotate_left
                  · simp only [Act.put, List.setIfInBounds_toArray, List.set_cons_zero, List.set_cons_succ, i64_w, i32_w]
                    rfl
                  refine pure_ (i := 3) (N := some 35) (v := ?_) (a' := ?_) #[true, true, true, true, false, false, false, false, false, false, false, false, false, false, false, false, false, false, false, false, false, false, false, false, false] rfl rfl (any_of HT_.out (by kernel_rfl)) (fun _ _ _ h => h) (Or.inl ⟨by rfl, ?_⟩) ?_ ?_
                  rotate_left
                  · intro w'
                    go_simp
                    with_reducible rfl
                  rotate_left
                  · simp only [Act.put, List.setIfInBounds_toArray, List.set_cons_zero, List.set_cons_succ, i64_w, i32_w]
                    rfl
                  refine pure_ (i := 4) (N := some 36) (v := undef) (a' := ?_) #[true, true, true, true, true, false, false, false, false, false, false, false, false, false, false, false, false, false, false, false, false, false, false, false, false] rfl rfl (any_of HT_.out (by kernel_rfl)) (fun _ _ _ h => h) (Or.inr ⟨by rfl, rfl⟩) ?_ ?_
                  rotate_left
                  · simp only [Act.put, List.setIfInBounds_toArray, List.set_cons_zero, List.set_cons_succ, i64_w, i32_w]
                    rfl
                  refine pure_ (i := 5) (N := some 37) (v := undef) (a' := ?_) #[true, true, true, true, true, true, false, false, false, false, false, false, false, false, false, false, false, false, false, false, false, false, false, false, false] rfl rfl (any_of HT_.out (by kernel_rfl)) (fun _ _ _ h => h) (Or.inr ⟨by rfl, rfl⟩) ?_ ?_
                  rotate_left
                  · simp only [Act.put, List.setIfInBounds_toArray, List.set_cons_zero, List.set_cons_succ, i64_w, i32_w]
                    rfl
                  refine pure_ (i := 6) (N := some 38) (v := undef) (a' := ?_) #[true, true, true, true, true, true, true, false, false, false, false, false, false, false, false, false, false, false, false, false, false, false, false, false, false] rfl rfl (any_of HT_.out (by kernel_rfl)) (fun _ _ _ h => h) (Or.inr ⟨by rfl, rfl⟩) ?_ ?_
                  rotate_left
                  · simp only [Act.put, List.setIfInBounds_toArray, List.set_cons_zero, List.set_cons_succ, i64_w, i32_w]
                    rfl
                  refine pure_ (i := 7) (N := some 39) (v := ?_) (a' := ?_) #[true, true, true, true, true, true, true, true, false, false, false, false, false, false, false, false, false, false, false, false, false, false, false, false, false] rfl rfl (any_of HT_.out (by kernel_rfl)) (fun _ _ _ h => h) (Or.inl ⟨by rfl, ?_⟩) ?_ ?_
                  rotate_left
                  · intro w'
                    go_simp
                    with_reducible rfl
                  rotate_left
                  · simp only [Act.put, List.setIfInBounds_toArray, List.set_cons_zero, List.set_cons_succ, i64_w, i32_w]
                    rfl
                  refine pure_ (i := 8) (N := some 40) (v := ?_) (a' := ?_) #[true, true, true, true, true, true, true, true, true, false, false, false, false, false, false, false, false, false, false, false, false, false, false, false, false] rfl rfl (any_of HT_.out (by kernel_rfl)) (fun _ _ _ h => h) (Or.inl ⟨by rfl, ?_⟩) ?_ ?_
                  rotate_left
                  · intro w'
                    go_simp
                    with_reducible rfl
                  rotate_left
                  · simp only [Act.put, List.setIfInBounds_toArray, List.set_cons_zero, List.set_cons_succ, i64_w, i32_w]
                    rfl
                  refine take_ (i := 9) (N := some 41) (v := ?_) (a' := ?_) #[true, true, true, true, true, true, true, true, true, true, false, false, false, false, false, false, false, false, false, false, false, false, false, false, false] rfl rfl (take_ofW HT_.out HW_.out (by kernel_rfl)) (fun _ _ _ h => h) (Or.inl ⟨by rfl, ?_⟩) hHeld ?_ ?_
                  rotate_left
                  · rintro w' ⟨s0, s1, s2, s3, s4, s5, s6, s7, s8, s9⟩
                    go_simp
                    with_reducible rfl
                  rotate_left
                  · simp only [Act.put, List.setIfInBounds_toArray, List.set_cons_zero, List.set_cons_succ, i64_w, i32_w]
                    rfl
                  refine take_ (i := 10) (N := some 42) (v := ?_) (a' := ?_) #[true, true, true, true, true, true, true, true, true, true, true, false, false, false, false, false, false, false, false, false, false, false, false, false, false] rfl rfl (take_ofW HT_.out HW_.out (by kernel_rfl)) (fun _ _ _ h => h) (Or.inl ⟨by rfl, ?_⟩) hHeld ?_ ?_
                  rotate_left
                  · rintro w' ⟨s0, s1, s2, s3, s4, s5, s6, s7, s8, s9⟩
                    go_simp
                    with_reducible rfl
                  rotate_left
                  · simp only [Act.put, List.setIfInBounds_toArray, List.set_cons_zero, List.set_cons_succ, i64_w, i32_w]
                    rfl
                  refine pure_ (i := 11) (N := some 43) (v := ?_) (a' := ?_) #[true, true, true, true, true, true, true, true, true, true, true, true, false, false, false, false, false, false, false, false, false, false, false, false, false] rfl rfl (any_of HT_.out (by kernel_rfl)) (fun _ _ _ h => h) (Or.inl ⟨by rfl, ?_⟩) ?_ ?_
                  rotate_left
                  · intro w'
                    go_simp
                    with_reducible rfl
                  rotate_left
                  · simp only [Act.put, List.setIfInBounds_toArray, List.set_cons_zero, List.set_cons_succ, i64_w, i32_w]
                    rfl
                  refine pure_ (i := 12) (N := some 44) (v := ?_) (a' := ?_) #[true, true, true, true, true, true, true, true, true, true, true, true, true, false, false, false, false, false, false, false, false, false, false, false, false] rfl rfl (any_of HT_.out (by kernel_rfl)) (fun _ _ _ h => h) (Or.inl ⟨by rfl, ?_⟩) ?_ ?_
                  rotate_left
                  · intro w'
                    go_simp
                    with_reducible rfl
                  rotate_left
                  · simp only [Act.put, List.setIfInBounds_toArray, List.set_cons_zero, List.set_cons_succ, i64_w, i32_w]
                    rfl
                  refine pure_ (i := 14) (N := some 46) (v := ?_) (a' := ?_) #[true, true, true, true, true, true, true, true, true, true, true, true, true, false, true, false, false, false, false, false, false, false, false, false, false] rfl rfl (any_of HT_.out (by kernel_rfl)) (fun _ _ _ h => h) (Or.inl ⟨by rfl, ?_⟩) ?_ ?_
                  rotate_left
                  · intro w'
                    go_simp
                    with_reducible rfl
                  rotate_left
                  · simp only [Act.put, List.setIfInBounds_toArray, List.set_cons_zero, List.set_cons_succ, i64_w, i32_w]
                    rfl
                  refine pure_ (i := 15) (N := some 47) (v := ?_) (a' := ?_) #[true, true, true, true, true, true, true, true, true, true, true, true, true, false, true, true, false, false, false, false, false, false, false, false, false] rfl rfl (any_of HT_.out (by kernel_rfl)) (fun _ _ _ h => h) (Or.inl ⟨by rfl, ?_⟩) ?_ ?_
                  rotate_left
                  · intro w'
                    go_simp
                    with_reducible rfl
                  rotate_left
                  · simp only [Act.put, List.setIfInBounds_toArray, List.set_cons_zero, List.set_cons_succ, i64_w, i32_w]
                    rfl
                  refine pure_ (i := 19) (N := some 51) (v := ?_) (a' := ?_) #[true, true, true, true, true, true, true, true, true, true, true, true, true, false, true, true, false, false, false, true, false, false, false, false, false] rfl rfl (any_of HT_.out (by kernel_rfl)) (fun _ _ _ h => h) (Or.inl ⟨by rfl, ?_⟩) ?_ ?_
                  rotate_left
                  · intro w'
                    go_simp
                    with_reducible rfl
                  rotate_left
                  · simp only [Act.put, List.setIfInBounds_toArray, List.set_cons_zero, List.set_cons_succ, i64_w, i32_w]
                    rfl
                  refine take_ (i := 13) (N := some 45) (v := ?_) (a' := ?_) #[true, true, true, true, true, true, true, true, true, true, true, true, true, true, true, true, false, false, false, true, false, false, false, false, false] rfl rfl (take_ofW HT_.out HW_.out (by kernel_rfl)) (fun _ _ _ h => h) (Or.inl ⟨by rfl, ?_⟩) hHeld ?_ ?_
                  rotate_left
                  · rintro w' ⟨s0, s1, s2, s3, s4, s5, s6, s7, s8, s9⟩
                    go_simp
                    with_reducible rfl
                  rotate_left
                  · simp only [Act.put, List.setIfInBounds_toArray, List.set_cons_zero, List.set_cons_succ, i64_w, i32_w]
                    rfl
                  refine take_ (i := 16) (N := some 48) (v := ?_) (a' := ?_) #[true, true, true, true, true, true, true, true, true, true, true, true, true, true, true, true, true, false, false, true, false, false, false, false, false] rfl rfl (take_ofW HT_.out HW_.out (by kernel_rfl)) (fun _ _ _ h => h) (Or.inl ⟨by rfl, ?_⟩) hHeld ?_ ?_
                  rotate_left
                  · rintro w' ⟨s0, s1, s2, s3, s4, s5, s6, s7, s8, s9⟩
                    go_simp
                    with_reducible rfl
                  rotate_left
                  · simp only [Act.put, List.setIfInBounds_toArray, List.set_cons_zero, List.set_cons_succ, i64_w, i32_w]
                    rfl
                  refine pure_ (i := 17) (N := some 49) (v := ?_) (a' := ?_) #[true, true, true, true, true, true, true, true, true, true, true, true, true, true, true, true, true, true, false, true, false, false, false, false, false] rfl rfl (any_of HT_.out (by kernel_rfl)) (fun _ _ _ h => h) (Or.inl ⟨by rfl, ?_⟩) ?_ ?_
                  rotate_left
                  · intro w'
                    go_simp
                    with_reducible rfl
                  rotate_left
                  · simp only [Act.put, List.setIfInBounds_toArray, List.set_cons_zero, List.set_cons_succ, i64_w, i32_w]
                    rfl
                  refine take_ (i := 18) (N := some 50) (v := ?_) (a' := ?_) #[true, true, true, true, true, true, true, true, true, true, true, true, true, true, true, true, true, true, true, true, false, false, false, false, false] rfl rfl (take_ofW HT_.out HW_.out (by kernel_rfl)) (fun _ _ _ h => h) (Or.inl ⟨by rfl, ?_⟩) hHeld ?_ ?_
                  rotate_left
                  · rintro w' ⟨s0, s1, s2, s3, s4, s5, s6, s7, s8, s9⟩
                    go_simp
                    with_reducible rfl
                  rotate_left
                  · simp only [Act.put, List.setIfInBounds_toArray, List.set_cons_zero, List.set_cons_succ, i64_w, i32_w]
                    rfl
                  refine take_ (i := 20) (N := some 52) (v := ?_) (a' := ?_) #[true, true, true, true, true, true, true, true, true, true, true, true, true, true, true, true, true, true, true, true, true, false, false, false, false] rfl rfl (take_ofW HT_.out HW_.out (by kernel_rfl)) (fun _ _ _ h => h) (Or.inl ⟨by rfl, ?_⟩) hHeld ?_ ?_
                  rotate_left
                  · rintro w' ⟨s0, s1, s2, s3, s4, s5, s6, s7, s8, s9⟩
                    go_simp
                    with_reducible rfl
                  rotate_left
                  · simp only [Act.put, List.setIfInBounds_toArray, List.set_cons_zero, List.set_cons_succ, i64_w, i32_w]
                    rfl
                  refine one_ (i := 21) (N := some 53) #[true, true, true, true, true, true, true, true, true, true, true, true, true, true, true, true, true, true, true, true, true, true, false, false, false] rfl rfl (one_of HT_.out (by kernel_rfl)) (by decide) (fun K hK => ?_)
                  refine goes_ Try.func94 (by kernel_rfl) rfl #[.agg #[.int .i64 ((rd_T70 t421 a3_0).f0), .int .i64 ((rd_T70 t421 a3_0).f1), .int .i64 ((rd_T70 t421 a3_0).f2)], .int .i64 a3_1] (by rfl) rfl rfl (by (try simp only [List.map_toArray, List.map_cons, List.map_nil]); first | done | rfl | (simp only [List.length_drop, List.length_take]; rfl)) ?_
                  with_reducible refine (weigh_mark_times.calls ((rd_T70 t421 a3_0).f0) ((rd_T70 t421 a3_0).f1) ((rd_T70 t421 a3_0).f2) a3_1 t434 t435 t436 _ A103.out).mono ?_
                  rintro e w125 ⟨rfl, hb⟩
                  have HS7_ := (hb.cell (World.block_lt_of_cell? _ _ (hHeld.2.2.2.2.2.2.2.1))).trans (hHeld.2.2.2.2.2.2.2.1)
                  have HS8_ := (hb.cell (World.block_lt_of_cell? _ _ (hHeld.2.2.2.2.2.2.2.2.1))).trans (hHeld.2.2.2.2.2.2.2.2.1)
                  have HS9_ := (hb.cell (World.block_lt_of_cell? _ _ (hHeld.2.2.2.2.2.2.2.2.2))).trans (hHeld.2.2.2.2.2.2.2.2.2)
                  refine ⟨_, rfl, ?_⟩
                  have n0_ := Aside0.mk (Kd.R_below (by (with_reducible repeat (first | apply Kd.R_alloc | apply Kd.R_drewN | apply Kd.R_drew)); exact HO419.out) hb)
                  have n1_ := Aside0.mk (Kd.R_below (by (with_reducible repeat (first | apply Kd.R_alloc | apply Kd.R_drewN | apply Kd.R_drew)); exact HO423.out) hb)
                  have n2_ := Aside0.mk (blk_below (g := gb415) (o := .cells #[.int .i64 a2_0, .int .i64 a2_1] 35 (0, 0)) (by (with_reducible repeat (first | refine blk_drewN ?_ _ | refine blk_drew ?_ | refine blk_alloc ?_ _)); exact BK415.out) hb)
                  have n3_ := Aside0.mk (blk_below (g := gb416) (o := .cells #[.int .i64 a3_0, .int .i64 a3_1] 35 (0, 0)) (by (with_reducible repeat (first | refine blk_drewN ?_ _ | refine blk_drew ?_ | refine blk_alloc ?_ _)); exact BK416.out) hb)
                  have n4_ := Aside0.mk (blk_below (g := gb428) (o := .cells #[.int .i64 t425, .int .i64 t426, .int .i64 t427] 70 (0, 0)) (by (with_reducible repeat (first | refine blk_drewN ?_ _ | refine blk_drew ?_ | refine blk_alloc ?_ _)); exact BK428.out) hb)
                  have n5_ := Aside0.mk (below_step (by repeat (first | (with_reducible first | exact HB.out | apply below_alloc | apply pw_below_drewN | apply below_drew1 | refine below_set ?_ GE415.out | refine below_set ?_ GE416.out | refine below_set ?_ GE428.out) | exact HB.out)) hb)
                  clear HO419
                  clear HO423
                  clear BK415
                  clear BK416
                  clear BK428
                  clear HB
                  have HO419 := n0_
                  have HO423 := n1_
                  have BK415 := n2_
                  have BK416 := n3_
                  have BK428 := n4_
                  have HB := n5_
                  clear n0_ n1_ n2_ n3_ n4_ n5_
                  (try clear hb)
                  (try clear hb2)
                  (try clear hk)
                  (try clear hi)
                  refine hK.out _ _ ⟨(blk_cell BK415.out 0).trans rfl, (blk_cell BK415.out 1).trans rfl, (blk_cell BK416.out 0).trans rfl, (blk_cell BK416.out 1).trans rfl, (blk_cell BK428.out 0).trans rfl, (blk_cell BK428.out 1).trans rfl, (blk_cell BK428.out 2).trans rfl, HS7_, HS8_, HS9_⟩ (fun hHeld => ?_)
                  clear hK K
                  refine norm_ (a' := ?_) ?_ ?_
                  rotate_left
                  · show Act.put _ (some 53) _ = _
                    simp only [Act.put, List.setIfInBounds_toArray, List.set_cons_zero, List.set_cons_succ, i64_w, i32_w]
                    rfl
                  refine pure_ (i := 22) (N := some 54) (v := ?_) (a' := ?_) #[true, true, true, true, true, true, true, true, true, true, true, true, true, true, true, true, true, true, true, true, true, true, true, false, false] rfl rfl (any_of HT_.out (by kernel_rfl)) (fun _ _ _ h => h) (Or.inl ⟨by rfl, ?_⟩) ?_ ?_
                  rotate_left
                  · intro w'
                    go_simp
                    with_reducible rfl
                  rotate_left
                  · simp only [Act.put, List.setIfInBounds_toArray, List.set_cons_zero, List.set_cons_succ, i64_w, i32_w]
                    rfl
                  refine pure_ (i := 23) (N := some 55) (v := ?_) (a' := ?_) #[true, true, true, true, true, true, true, true, true, true, true, true, true, true, true, true, true, true, true, true, true, true, true, true, false] rfl rfl (any_of HT_.out (by kernel_rfl)) (fun _ _ _ h => h) (Or.inl ⟨by rfl, ?_⟩) ?_ ?_
                  rotate_left
                  · intro w'
                    go_simp
                    with_reducible rfl
                  rotate_left
                  · simp only [Act.put, List.setIfInBounds_toArray, List.set_cons_zero, List.set_cons_succ, i64_w, i32_w]
                    rfl
                  refine pure_ (i := 24) (N := some 56) (v := ?_) (a' := ?_) #[true, true, true, true, true, true, true, true, true, true, true, true, true, true, true, true, true, true, true, true, true, true, true, true, true] rfl rfl (any_of HT_.out (by kernel_rfl)) (fun _ _ _ h => h) (Or.inl ⟨by rfl, ?_⟩) ?_ ?_
                  rotate_left
                  · intro w'
                    go_simp
                    with_reducible rfl
                  rotate_left
                  · simp only [Act.put, List.setIfInBounds_toArray, List.set_cons_zero, List.set_cons_succ, i64_w, i32_w]
                    rfl
                  refine done_ (done_of HT_.out (by kernel_rfl)) ?_
                  try go_wp2
                  go_ret
                  exact ⟨by first | rfl | (simp [errW_none, errW_some] <;> rfl) | (simp [*, errW_none, errW_some] <;> rfl), by repeat (first | (with_reducible first | exact HB.out | apply below_alloc | apply pw_below_drewN | apply below_drew1 | refine below_set ?_ GE415.out | refine below_set ?_ GE416.out | refine below_set ?_ GE428.out) | exact HB.out)⟩
                · rw [if_neg c104] at H
                  have c104b0 : (t425 == t434 && (t426 == t435 && (t427 == t436))) = false := by simpa using c104
                  (try (have c104b1 : decide (t425 = t434 && (t426 == t435 && (t427 == t436))) = false := by simpa using c104))
                  (try (have c104b2 : (t425 == t434 && (t426 == t435 && (t427 == t436))) = false := by simpa using c104))
                  (try (have c104b3 : ¬ (t425 = t434 && (t426 == t435 && (t427 == t436))) := by simpa using c104))
                  clear c104
                  obtain rfl := Option.some.inj H
                  have p433 : 0 ≤ (a3_0 : Int) := of_decide_eq_true (by first | (with_reducible assumption) | assumption)
                  have q433 : a3_0 < (t421.length : Int) := of_decide_eq_true (by first | (with_reducible assumption) | assumption)
                  obtain ⟨ad433, e433, hx433_0, hx433_1, hx433_2⟩ := at_T70 (Kd.R_reads' HO423.out).2.2 a3_0 p433 q433
                  obtain rfl : ad424 = ad433 := (by injection e433)
                  replace p433 := eq_true p433
                  replace q433 := eq_true q433
                  refine start_ (n := 25) (S := fun w' => w'.cell? ⟨gb415, 0, none⟩ = some (.int .i64 a2_0) ∧ w'.cell? ⟨gb415, 1, none⟩ = some (.int .i64 a2_1) ∧ w'.cell? ⟨gb416, 0, none⟩ = some (.int .i64 a3_0) ∧ w'.cell? ⟨gb416, 1, none⟩ = some (.int .i64 a3_1) ∧ w'.cell? ⟨gb428, 0, none⟩ = some (.int .i64 t425) ∧ w'.cell? ⟨gb428, 1, none⟩ = some (.int .i64 t426) ∧ w'.cell? ⟨gb428, 2, none⟩ = some (.int .i64 t427) ∧ w'.cell? (ad424.add ((a3_0).toNat * 3)) = some (.int .i64 ((rd_T70 t421 a3_0).f0)) ∧ w'.cell? ⟨(ad424.add ((a3_0).toNat * 3)).block, (ad424.add ((a3_0).toNat * 3)).off + 1, none⟩ = some (.int .i64 ((rd_T70 t421 a3_0).f1)) ∧ w'.cell? ⟨(ad424.add ((a3_0).toNat * 3)).block, (ad424.add ((a3_0).toNat * 3)).off + 2, none⟩ = some (.int .i64 ((rd_T70 t421 a3_0).f2))) (ds := []) #[false, false, false, false, false, false, false, false, false, false, false, false, false, false, false, false, false, false, false, false, false, false, false, false, false] (by kernel_rfl) rfl rfl ⟨(blk_cell BK415.out 0).trans rfl, (blk_cell BK415.out 1).trans rfl, (blk_cell BK416.out 0).trans rfl, (blk_cell BK416.out 1).trans rfl, (blk_cell BK428.out 0).trans rfl, (blk_cell BK428.out 1).trans rfl, (blk_cell BK428.out 2).trans rfl, hx433_0, hx433_1, hx433_2⟩ (fun hHeld => ?_); refine with_tabW weigh_CheckBad.tab6 weigh_CheckBad.bits6 (fun HT_ HW_ => ?_)
                  generalize w31.drew = w145 at HO419 HO423 BK415 BK416 BK428 HB hx433_0 hx433_1 hx433_2 hHeld ⊢
                  refine take_ (i := 0) (N := some 32) (v := ?_) (a' := ?_) #[true, false, false, false, false, false, false, false, false, false, false, false, false, false, false, false, false, false, false, false, false, false, false, false, false] rfl rfl (take_ofW HT_.out HW_.out (by kernel_rfl)) (fun _ _ _ h => h) (Or.inl ⟨by rfl, ?_⟩) hHeld ?_ ?_
                  rotate_left
                  · rintro w' ⟨s0, s1, s2, s3, s4, s5, s6, s7, s8, s9⟩
                    go_simp
                    with_reducible rfl
                  rotate_left
                  · simp only [Act.put, List.setIfInBounds_toArray, List.set_cons_zero, List.set_cons_succ, i64_w, i32_w]
                    rfl
                  refine take_ (i := 1) (N := some 33) (v := ?_) (a' := ?_) #[true, true, false, false, false, false, false, false, false, false, false, false, false, false, false, false, false, false, false, false, false, false, false, false, false] rfl rfl (take_ofW HT_.out HW_.out (by kernel_rfl)) (fun _ _ _ h => h) (Or.inl ⟨by rfl, ?_⟩) hHeld ?_ ?_
                  rotate_left
                  · rintro w' ⟨s0, s1, s2, s3, s4, s5, s6, s7, s8, s9⟩
                    go_simp
                    with_reducible rfl
                  rotate_left
                  · simp only [Act.put, List.setIfInBounds_toArray, List.set_cons_zero, List.set_cons_succ, i64_w, i32_w]
                    rfl
                  refine pure_ (i := 2) (N := some 34) (v := ?_) (a' := ?_) #[true, true, true, false, false, false, false, false, false, false, false, false, false, false, false, false, false, false, false, false, false, false, false, false, false] rfl rfl (any_of HT_.out (by kernel_rfl)) (fun _ _ _ h => h) (Or.inl ⟨by rfl, ?_⟩) ?_ ?_
                  rotate_left
                  · intro w'
                    go_simp
                    with_reducible rfl
                  rotate_left
                  · simp only [Act.put, List.setIfInBounds_toArray, List.set_cons_zero, List.set_cons_succ, i64_w, i32_w]
                    rfl
                  refine pure_ (i := 3) (N := some 35) (v := ?_) (a' := ?_) #[true, true, true, true, false, false, false, false, false, false, false, false, false, false, false, false, false, false, false, false, false, false, false, false, false] rfl rfl (any_of HT_.out (by kernel_rfl)) (fun _ _ _ h => h) (Or.inl ⟨by rfl, ?_⟩) ?_ ?_
                  rotate_left
                  · intro w'
                    go_simp
                    with_reducible rfl
                  rotate_left
                  · simp only [Act.put, List.setIfInBounds_toArray, List.set_cons_zero, List.set_cons_succ, i64_w, i32_w]
                    rfl
                  refine pure_ (i := 4) (N := some 36) (v := undef) (a' := ?_) #[true, true, true, true, true, false, false, false, false, false, false, false, false, false, false, false, false, false, false, false, false, false, false, false, false] rfl rfl (any_of HT_.out (by kernel_rfl)) (fun _ _ _ h => h) (Or.inr ⟨by rfl, rfl⟩) ?_ ?_
                  rotate_left
                  · simp only [Act.put, List.setIfInBounds_toArray, List.set_cons_zero, List.set_cons_succ, i64_w, i32_w]
                    rfl
                  refine pure_ (i := 5) (N := some 37) (v := undef) (a' := ?_) #[true, true, true, true, true, true, false, false, false, false, false, false, false, false, false, false, false, false, false, false, false, false, false, false, false] rfl rfl (any_of HT_.out (by kernel_rfl)) (fun _ _ _ h => h) (Or.inr ⟨by rfl, rfl⟩) ?_ ?_
                  rotate_left
                  · simp only [Act.put, List.setIfInBounds_toArray, List.set_cons_zero, List.set_cons_succ, i64_w, i32_w]
                    rfl
                  refine pure_ (i := 6) (N := some 38) (v := undef) (a' := ?_) #[true, true, true, true, true, true, true, false, false, false, false, false, false, false, false, false, false, false, false, false, false, false, false, false, false] rfl rfl (any_of HT_.out (by kernel_rfl)) (fun _ _ _ h => h) (Or.inr ⟨by rfl, rfl⟩) ?_ ?_
                  rotate_left
                  · simp only [Act.put, List.setIfInBounds_toArray, List.set_cons_zero, List.set_cons_succ, i64_w, i32_w]
                    rfl
                  refine pure_ (i := 7) (N := some 39) (v := ?_) (a' := ?_) #[true, true, true, true, true, true, true, true, false, false, false, false, false, false, false, false, false, false, false, false, false, false, false, false, false] rfl rfl (any_of HT_.out (by kernel_rfl)) (fun _ _ _ h => h) (Or.inl ⟨by rfl, ?_⟩) ?_ ?_
                  rotate_left
                  · intro w'
                    go_simp
                    with_reducible rfl
                  rotate_left
                  · simp only [Act.put, List.setIfInBounds_toArray, List.set_cons_zero, List.set_cons_succ, i64_w, i32_w]
                    rfl
                  refine pure_ (i := 8) (N := some 40) (v := ?_) (a' := ?_) #[true, true, true, true, true, true, true, true, true, false, false, false, false, false, false, false, false, false, false, false, false, false, false, false, false] rfl rfl (any_of HT_.out (by kernel_rfl)) (fun _ _ _ h => h) (Or.inl ⟨by rfl, ?_⟩) ?_ ?_
                  rotate_left
                  · intro w'
                    go_simp
                    with_reducible rfl
                  rotate_left
                  · simp only [Act.put, List.setIfInBounds_toArray, List.set_cons_zero, List.set_cons_succ, i64_w, i32_w]
                    rfl
                  refine take_ (i := 9) (N := some 41) (v := ?_) (a' := ?_) #[true, true, true, true, true, true, true, true, true, true, false, false, false, false, false, false, false, false, false, false, false, false, false, false, false] rfl rfl (take_ofW HT_.out HW_.out (by kernel_rfl)) (fun _ _ _ h => h) (Or.inl ⟨by rfl, ?_⟩) hHeld ?_ ?_
                  rotate_left
                  · rintro w' ⟨s0, s1, s2, s3, s4, s5, s6, s7, s8, s9⟩
                    go_simp
                    with_reducible rfl
                  rotate_left
                  · simp only [Act.put, List.setIfInBounds_toArray, List.set_cons_zero, List.set_cons_succ, i64_w, i32_w]
                    rfl
                  refine take_ (i := 10) (N := some 42) (v := ?_) (a' := ?_) #[true, true, true, true, true, true, true, true, true, true, true, false, false, false, false, false, false, false, false, false, false, false, false, false, false] rfl rfl (take_ofW HT_.out HW_.out (by kernel_rfl)) (fun _ _ _ h => h) (Or.inl ⟨by rfl, ?_⟩) hHeld ?_ ?_
                  rotate_left
                  · rintro w' ⟨s0, s1, s2, s3, s4, s5, s6, s7, s8, s9⟩
                    go_simp
                    with_reducible rfl
                  rotate_left
                  · simp only [Act.put, List.setIfInBounds_toArray, List.set_cons_zero, List.set_cons_succ, i64_w, i32_w]
                    rfl
                  refine pure_ (i := 11) (N := some 43) (v := ?_) (a' := ?_) #[true, true, true, true, true, true, true, true, true, true, true, true, false, false, false, false, false, false, false, false, false, false, false, false, false] rfl rfl (any_of HT_.out (by kernel_rfl)) (fun _ _ _ h => h) (Or.inl ⟨by rfl, ?_⟩) ?_ ?_
                  rotate_left
                  · intro w'
                    go_simp
                    with_reducible rfl
                  rotate_left
                  · simp only [Act.put, List.setIfInBounds_toArray, List.set_cons_zero, List.set_cons_succ, i64_w, i32_w]
                    rfl
                  refine pure_ (i := 12) (N := some 44) (v := ?_) (a' := ?_) #[true, true, true, true, true, true, true, true, true, true, true, true, true, false, false, false, false, false, false, false, false, false, false, false, false] rfl rfl (any_of HT_.out (by kernel_rfl)) (fun _ _ _ h => h) (Or.inl ⟨by rfl, ?_⟩) ?_ ?_
                  rotate_left
                  · intro w'
                    go_simp
                    with_reducible rfl
                  rotate_left
                  · simp only [Act.put, List.setIfInBounds_toArray, List.set_cons_zero, List.set_cons_succ, i64_w, i32_w]
                    rfl
                  refine pure_ (i := 14) (N := some 46) (v := ?_) (a' := ?_) #[true, true, true, true, true, true, true, true, true, true, true, true, true, false, true, false, false, false, false, false, false, false, false, false, false] rfl rfl (any_of HT_.out (by kernel_rfl)) (fun _ _ _ h => h) (Or.inl ⟨by rfl, ?_⟩) ?_ ?_
                  rotate_left
                  · intro w'
                    go_simp
                    with_reducible rfl
                  rotate_left
                  · simp only [Act.put, List.setIfInBounds_toArray, List.set_cons_zero, List.set_cons_succ, i64_w, i32_w]
                    rfl
                  refine pure_ (i := 15) (N := some 47) (v := ?_) (a' := ?_) #[true, true, true, true, true, true, true, true, true, true, true, true, true, false, true, true, false, false, false, false, false, false, false, false, false] rfl rfl (any_of HT_.out (by kernel_rfl)) (fun _ _ _ h => h) (Or.inl ⟨by rfl, ?_⟩) ?_ ?_
                  rotate_left
                  · intro w'
                    go_simp
                    with_reducible rfl
                  rotate_left
                  · simp only [Act.put, List.setIfInBounds_toArray, List.set_cons_zero, List.set_cons_succ, i64_w, i32_w]
                    rfl
                  refine pure_ (i := 19) (N := some 51) (v := ?_) (a' := ?_) #[true, true, true, true, true, true, true, true, true, true, true, true, true, false, true, true, false, false, false, true, false, false, false, false, false] rfl rfl (any_of HT_.out (by kernel_rfl)) (fun _ _ _ h => h) (Or.inl ⟨by rfl, ?_⟩) ?_ ?_
                  rotate_left
                  · intro w'
                    go_simp
                    with_reducible rfl
                  rotate_left
                  · simp only [Act.put, List.setIfInBounds_toArray, List.set_cons_zero, List.set_cons_succ, i64_w, i32_w]
                    rfl
                  refine take_ (i := 13) (N := some 45) (v := ?_) (a' := ?_) #[true, true, true, true, true, true, true, true, true, true, true, true, true, true, true, true, false, false, false, true, false, false, false, false, false] rfl rfl (take_ofW HT_.out HW_.out (by kernel_rfl)) (fun _ _ _ h => h) (Or.inl ⟨by rfl, ?_⟩) hHeld ?_ ?_
                  rotate_left
                  · rintro w' ⟨s0, s1, s2, s3, s4, s5, s6, s7, s8, s9⟩
                    go_simp
                    with_reducible rfl
                  rotate_left
                  · simp only [Act.put, List.setIfInBounds_toArray, List.set_cons_zero, List.set_cons_succ, i64_w, i32_w]
                    rfl
                  refine take_ (i := 16) (N := some 48) (v := ?_) (a' := ?_) #[true, true, true, true, true, true, true, true, true, true, true, true, true, true, true, true, true, false, false, true, false, false, false, false, false] rfl rfl (take_ofW HT_.out HW_.out (by kernel_rfl)) (fun _ _ _ h => h) (Or.inl ⟨by rfl, ?_⟩) hHeld ?_ ?_
                  rotate_left
                  · rintro w' ⟨s0, s1, s2, s3, s4, s5, s6, s7, s8, s9⟩
                    go_simp
                    with_reducible rfl
                  rotate_left
                  · simp only [Act.put, List.setIfInBounds_toArray, List.set_cons_zero, List.set_cons_succ, i64_w, i32_w]
                    rfl
                  refine pure_ (i := 17) (N := some 49) (v := ?_) (a' := ?_) #[true, true, true, true, true, true, true, true, true, true, true, true, true, true, true, true, true, true, false, true, false, false, false, false, false] rfl rfl (any_of HT_.out (by kernel_rfl)) (fun _ _ _ h => h) (Or.inl ⟨by rfl, ?_⟩) ?_ ?_
                  rotate_left
                  · intro w'
                    go_simp
                    with_reducible rfl
                  rotate_left
                  · simp only [Act.put, List.setIfInBounds_toArray, List.set_cons_zero, List.set_cons_succ, i64_w, i32_w]
                    rfl
                  refine take_ (i := 18) (N := some 50) (v := ?_) (a' := ?_) #[true, true, true, true, true, true, true, true, true, true, true, true, true, true, true, true, true, true, true, true, false, false, false, false, false] rfl rfl (take_ofW HT_.out HW_.out (by kernel_rfl)) (fun _ _ _ h => h) (Or.inl ⟨by rfl, ?_⟩) hHeld ?_ ?_
                  rotate_left
                  · rintro w' ⟨s0, s1, s2, s3, s4, s5, s6, s7, s8, s9⟩
                    go_simp
                    with_reducible rfl
                  rotate_left
                  · simp only [Act.put, List.setIfInBounds_toArray, List.set_cons_zero, List.set_cons_succ, i64_w, i32_w]
                    rfl
                  refine take_ (i := 20) (N := some 52) (v := ?_) (a' := ?_) #[true, true, true, true, true, true, true, true, true, true, true, true, true, true, true, true, true, true, true, true, true, false, false, false, false] rfl rfl (take_ofW HT_.out HW_.out (by kernel_rfl)) (fun _ _ _ h => h) (Or.inl ⟨by rfl, ?_⟩) hHeld ?_ ?_
                  rotate_left
                  · rintro w' ⟨s0, s1, s2, s3, s4, s5, s6, s7, s8, s9⟩
                    go_simp
                    with_reducible rfl
                  rotate_left
                  · simp only [Act.put, List.setIfInBounds_toArray, List.set_cons_zero, List.set_cons_succ, i64_w, i32_w]
                    rfl
                  refine one_ (i := 21) (N := some 53) #[true, true, true, true, true, true, true, true, true, true, true, true, true, true, true, true, true, true, true, true, true, true, false, false, false] rfl rfl (one_of HT_.out (by kernel_rfl)) (by decide) (fun K hK => ?_)
                  refine goes_ Try.func94 (by kernel_rfl) rfl #[.agg #[.int .i64 ((rd_T70 t421 a3_0).f0), .int .i64 ((rd_T70 t421 a3_0).f1), .int .i64 ((rd_T70 t421 a3_0).f2)], .int .i64 a3_1] (by rfl) rfl rfl (by (try simp only [List.map_toArray, List.map_cons, List.map_nil]); first | done | rfl | (simp only [List.length_drop, List.length_take]; rfl)) ?_
                  with_reducible refine (weigh_mark_times.calls ((rd_T70 t421 a3_0).f0) ((rd_T70 t421 a3_0).f1) ((rd_T70 t421 a3_0).f2) a3_1 t434 t435 t436 _ A103.out).mono ?_
                  rintro e w146 ⟨rfl, hb⟩
                  have HS7_ := (hb.cell (World.block_lt_of_cell? _ _ (hHeld.2.2.2.2.2.2.2.1))).trans (hHeld.2.2.2.2.2.2.2.1)
                  have HS8_ := (hb.cell (World.block_lt_of_cell? _ _ (hHeld.2.2.2.2.2.2.2.2.1))).trans (hHeld.2.2.2.2.2.2.2.2.1)
                  have HS9_ := (hb.cell (World.block_lt_of_cell? _ _ (hHeld.2.2.2.2.2.2.2.2.2))).trans (hHeld.2.2.2.2.2.2.2.2.2)
                  refine ⟨_, rfl, ?_⟩
                  have n0_ := Aside0.mk (Kd.R_below (by (with_reducible repeat (first | apply Kd.R_alloc | apply Kd.R_drewN | apply Kd.R_drew)); exact HO419.out) hb)
                  have n1_ := Aside0.mk (Kd.R_below (by (with_reducible repeat (first | apply Kd.R_alloc | apply Kd.R_drewN | apply Kd.R_drew)); exact HO423.out) hb)
                  have n2_ := Aside0.mk (blk_below (g := gb415) (o := .cells #[.int .i64 a2_0, .int .i64 a2_1] 35 (0, 0)) (by (with_reducible repeat (first | refine blk_drewN ?_ _ | refine blk_drew ?_ | refine blk_alloc ?_ _)); exact BK415.out) hb)
                  have n3_ := Aside0.mk (blk_below (g := gb416) (o := .cells #[.int .i64 a3_0, .int .i64 a3_1] 35 (0, 0)) (by (with_reducible repeat (first | refine blk_drewN ?_ _ | refine blk_drew ?_ | refine blk_alloc ?_ _)); exact BK416.out) hb)
                  have n4_ := Aside0.mk (blk_below (g := gb428) (o := .cells #[.int .i64 t425, .int .i64 t426, .int .i64 t427] 70 (0, 0)) (by (with_reducible repeat (first | refine blk_drewN ?_ _ | refine blk_drew ?_ | refine blk_alloc ?_ _)); exact BK428.out) hb)
                  have n5_ := Aside0.mk (below_step (by repeat (first | (with_reducible first | exact HB.out | apply below_alloc | apply pw_below_drewN | apply below_drew1 | refine below_set ?_ GE415.out | refine below_set ?_ GE416.out | refine below_set ?_ GE428.out) | exact HB.out)) hb)
                  clear HO419
                  clear HO423
                  clear BK415
                  clear BK416
                  clear BK428
                  clear HB
                  have HO419 := n0_
                  have HO423 := n1_
                  have BK415 := n2_
                  have BK416 := n3_
                  have BK428 := n4_
                  have HB := n5_
                  clear n0_ n1_ n2_ n3_ n4_ n5_
                  (try clear hb)
                  (try clear hb2)
                  (try clear hk)
                  (try clear hi)
                  refine hK.out _ _ ⟨(blk_cell BK415.out 0).trans rfl, (blk_cell BK415.out 1).trans rfl, (blk_cell BK416.out 0).trans rfl, (blk_cell BK416.out 1).trans rfl, (blk_cell BK428.out 0).trans rfl, (blk_cell BK428.out 1).trans rfl, (blk_cell BK428.out 2).trans rfl, HS7_, HS8_, HS9_⟩ (fun hHeld => ?_)
                  clear hK K
                  refine norm_ (a' := ?_) ?_ ?_
                  rotate_left
                  · show Act.put _ (some 53) _ = _
                    simp only [Act.put, List.setIfInBounds_toArray, List.set_cons_zero, List.set_cons_succ, i64_w, i32_w]
                    rfl
                  refine pure_ (i := 22) (N := some 54) (v := ?_) (a' := ?_) #[true, true, true, true, true, true, true, true, true, true, true, true, true, true, true, true, true, true, true, true, true, true, true, false, false] rfl rfl (any_of HT_.out (by kernel_rfl)) (fun _ _ _ h => h) (Or.inl ⟨by rfl, ?_⟩) ?_ ?_
                  rotate_left
                  · intro w'
                    go_simp
                    with_reducible rfl
                  rotate_left
                  · simp only [Act.put, List.setIfInBounds_toArray, List.set_cons_zero, List.set_cons_succ, i64_w, i32_w]
                    rfl
                  refine pure_ (i := 23) (N := some 55) (v := ?_) (a' := ?_) #[true, true, true, true, true, true, true, true, true, true, true, true, true, true, true, true, true, true, true, true, true, true, true, true, false] rfl rfl (any_of HT_.out (by kernel_rfl)) (fun _ _ _ h => h) (Or.inl ⟨by rfl, ?_⟩) ?_ ?_
                  rotate_left
                  · intro w'
                    go_simp
                    with_reducible rfl
                  rotate_left
                  · simp only [Act.put, List.setIfInBounds_toArray, List.set_cons_zero, List.set_cons_succ, i64_w, i32_w]
                    rfl
                  refine pure_ (i := 24) (N := some 56) (v := ?_) (a' := ?_) #[true, true, true, true, true, true, true, true, true, true, true, true, true, true, true, true, true, true, true, true, true, true, true, true, true] rfl rfl (any_of HT_.out (by kernel_rfl)) (fun _ _ _ h => h) (Or.inl ⟨by rfl, ?_⟩) ?_ ?_
                  rotate_left
                  · intro w'
                    go_simp
                    with_reducible rfl
                  rotate_left
                  · simp only [Act.put, List.setIfInBounds_toArray, List.set_cons_zero, List.set_cons_succ, i64_w, i32_w]
                    rfl
                  refine done_ (done_of HT_.out (by kernel_rfl)) ?_
                  try go_wp2
                  go_ret
                  exact ⟨by first | rfl | (simp [errW_none, errW_some] <;> rfl) | (simp [*, errW_none, errW_some] <;> rfl), by repeat (first | (with_reducible first | exact HB.out | apply below_alloc | apply pw_below_drewN | apply below_drew1 | refine below_set ?_ GE415.out | refine below_set ?_ GE416.out | refine below_set ?_ GE428.out) | exact HB.out)⟩
              · rw [if_neg c102] at H
                exact absurd H (by simp)
            · rw [if_neg c101] at H
              exact absurd H (by simp)
          · exfalso
            revert c11b0 c100
            cases (a2_0 == a3_0) <;> cases (a2_1 == a3_1) <;> simp
      · rw [if_neg c9] at H
        exact absurd H (by simp)
    · rw [if_neg c8] at H
      exact absurd H (by simp)
  · rw [if_neg c6] at H
    have c6b0 : (t420 == 0) = false := beq_eq_false_iff_ne.mpr c6
    have c6b1 : (t420 != 0) = true := bne_iff_ne.mpr c6
    obtain rfl := Option.some.inj H
    go_enter Try.func61, Try.ntmps61
    go_wp2_with (first | ((with_reducible refine gate_dst (N := 6) rfl ?_); refine box_event ?hg (N := 6) ?hd (cs := #[.int .i64 a2_0, .int .i64 a2_1]) (t := 35) ?hr ?_; (case hd => rfl); (case hg => rfl); (case hr => first | (go_simp; done) | (go_simp; rfl)); intro gb415 hg w167 hbox hb; have n0_ := Aside0.mk (below_step (by repeat (first | (with_reducible first | exact HB.out | apply below_alloc | apply pw_below_drewN | apply below_drew1) | exact HB.out)) hb); have n1_ := Aside0.mk (hbox); have n2_ := Aside0.mk ((by rw [hg]; exact (below_size (by repeat (first | (with_reducible first | exact HB.out | apply below_alloc | apply pw_below_drewN | apply below_drew1) | exact HB.out))) : w.heap.size ≤ gb415)); have n3_ := Aside0.mk ((by rw [hg]; exact (below_size (by repeat (first | (with_reducible first | exact HB.out | apply below_alloc | apply pw_below_drewN | apply below_drew1) | exact HB.out))) : w.heap.size ≤ gb415)); clear HB; have HB := n0_; have BK415 := n1_; have GW415 := n2_; have GE415 := n3_; clear n0_ n1_ n2_ n3_; clear hb hbox hg) | ((with_reducible refine gate_dst (N := 7) rfl ?_); refine box_event ?hg (N := 7) ?hd (cs := #[.int .i64 a3_0, .int .i64 a3_1]) (t := 35) ?hr ?_; (case hd => rfl); (case hg => rfl); (case hr => first | (go_simp; done) | (go_simp; rfl)); intro gb416 hg w168 hbox hb; have n0_ := Aside0.mk (blk_below (g := gb415) (o := .cells #[.int .i64 a2_0, .int .i64 a2_1] 35 (0, 0)) (by (with_reducible repeat (first | refine blk_drewN ?_ _ | refine blk_drew ?_ | refine blk_alloc ?_ _)); exact BK415.out) hb); have n1_ := Aside0.mk (below_step (by repeat (first | (with_reducible first | exact HB.out | apply below_alloc | apply pw_below_drewN | apply below_drew1 | refine below_set ?_ GE415.out) | exact HB.out)) hb); have n2_ := Aside0.mk (hbox); have n3_ := Aside0.mk ((by rw [hg]; exact (below_size (by repeat (first | (with_reducible first | exact HB.out | apply below_alloc | apply pw_below_drewN | apply below_drew1 | refine below_set ?_ GE415.out) | exact HB.out))) : w.heap.size ≤ gb416)); have n4_ := Aside0.mk ((by rw [hg]; exact (below_size (by repeat (first | (with_reducible first | exact HB.out | apply below_alloc | apply pw_below_drewN | apply below_drew1 | refine below_set ?_ GE415.out) | exact HB.out))) : w.heap.size ≤ gb416)); have n5_ := Aside0.mk ((by rw [hg]; exact Nat.ne_of_lt (blk_lt (g := gb415) (o := .cells #[.int .i64 a2_0, .int .i64 a2_1] 35 (0, 0)) (by (with_reducible repeat (first | refine blk_drewN ?_ _ | refine blk_drew ?_ | refine blk_alloc ?_ _)); exact BK415.out)) : gb415 ≠ gb416)); have n6_ := Aside0.mk ((by rw [hg]; exact Nat.ne_of_gt (blk_lt (g := gb415) (o := .cells #[.int .i64 a2_0, .int .i64 a2_1] 35 (0, 0)) (by (with_reducible repeat (first | refine blk_drewN ?_ _ | refine blk_drew ?_ | refine blk_alloc ?_ _)); exact BK415.out)) : gb416 ≠ gb415)); clear BK415; clear HB; have BK415 := n0_; have HB := n1_; have BK416 := n2_; have GW416 := n3_; have GE416 := n4_; have NB415_416 := n5_; have NB416_415 := n6_; clear n0_ n1_ n2_ n3_ n4_ n5_ n6_; clear hb hbox hg; have hnb169 := NB415_416.out; have hnc169 := NB416_415.out; have hcz170_0 : w168.cell? ⟨gb415, 0, none⟩ = some (.int .i64 a2_0) := (blk_cell BK415.out 0).trans rfl; have hcz170_1 : w168.cell? ⟨gb415, 1, none⟩ = some (.int .i64 a2_1) := (blk_cell BK415.out 1).trans rfl; have hfz170_0 := blk_frozen BK415.out 0; have hfz170_1 := blk_frozen BK415.out 1; have hcz171_0 : w168.cell? ⟨gb416, 0, none⟩ = some (.int .i64 a3_0) := (blk_cell BK416.out 0).trans rfl; have hcz171_1 : w168.cell? ⟨gb416, 1, none⟩ = some (.int .i64 a3_1) := (blk_cell BK416.out 1).trans rfl; have hfz171_0 := blk_frozen BK416.out 0; have hfz171_1 := blk_frozen BK416.out 1) | ((with_reducible refine gate_dst (N := 16) rfl ?_); refine Kd.R_lit k35 _ 35 ?hg (N := 16) ?hd (xs := ([(⟨a2_0, a2_1⟩ : S35), (⟨a3_0, a3_1⟩ : S35)] : List (S35))) (inner := [.int .i64 a2_0, .int .i64 a2_1, .int .i64 a3_0, .int .i64 a3_1]) (ok := fun _ => True) (okp := fun _ => True) ?hr ?hp (fun _ hk => hk) trivial (Below.refl _ _) (Nat.le_refl _) (by simp) ?_; (case hd => rfl); (case hg => rfl); (case hr => first | (go_simp; done) | (go_simp; rfl)); (case hp => exact (Reps.c2 (show Kd.M k35 _ _ _ (⟨a2_0, a2_1⟩ : S35) [.int .i64 a2_0, .int .i64 a2_1] from (k35_mkM _ _ _ (⟨a2_0, a2_1⟩ : S35) )) (Reps.c2 (show Kd.M k35 _ _ _ (⟨a3_0, a3_1⟩ : S35) [.int .i64 a3_0, .int .i64 a3_1] from (k35_mkM _ _ _ (⟨a3_0, a3_1⟩ : S35) )) (Reps.none _ _)))); intro v418 w172 ho173 hb hg_ hnew_; clear hg_ hnew_; (first | rw [← Ny417.out] at ho173 | (simp only [Int.reduceToNat] at ho173; rw [← Ny417.out] at ho173)); have n0_ := Aside0.mk (Kd.R_lower (Kd.R_newB (Kd.R_newB ho173 (g := gb415) (o := .cells #[.int .i64 a2_0, .int .i64 a2_1] 35 (0, 0)) (by (with_reducible repeat (first | refine blk_drewN ?_ _ | refine blk_drew ?_ | refine blk_alloc ?_ _)); exact BK415.out)) (g := gb416) (o := .cells #[.int .i64 a3_0, .int .i64 a3_1] 35 (0, 0)) (by (with_reducible repeat (first | refine blk_drewN ?_ _ | refine blk_drew ?_ | refine blk_alloc ?_ _)); exact BK416.out)) (below_size (by repeat (first | (with_reducible first | exact HB.out | apply below_alloc | apply pw_below_drewN | apply below_drew1 | refine below_set ?_ GE415.out | refine below_set ?_ GE416.out) | exact HB.out)))); have n1_ := Aside0.mk (blk_below (g := gb415) (o := .cells #[.int .i64 a2_0, .int .i64 a2_1] 35 (0, 0)) (by (with_reducible repeat (first | refine blk_drewN ?_ _ | refine blk_drew ?_ | refine blk_alloc ?_ _)); exact BK415.out) hb); have n2_ := Aside0.mk (blk_below (g := gb416) (o := .cells #[.int .i64 a3_0, .int .i64 a3_1] 35 (0, 0)) (by (with_reducible repeat (first | refine blk_drewN ?_ _ | refine blk_drew ?_ | refine blk_alloc ?_ _)); exact BK416.out) hb); have n3_ := Aside0.mk (below_step (by repeat (first | (with_reducible first | exact HB.out | apply below_alloc | apply pw_below_drewN | apply below_drew1 | refine below_set ?_ GE415.out | refine below_set ?_ GE416.out) | exact HB.out)) hb); clear BK415; clear BK416; clear HB; have HO419 := n0_; have BK415 := n1_; have BK416 := n2_; have HB := n3_; clear n0_ n1_ n2_ n3_; clear hb ho173; obtain ⟨Ao174, co174, eo174⟩ := Kd.R_slice HO419.out; subst eo174) | ((with_reducible refine gate_callee (f := 95) rfl ?_); refine goesL_ (some 17) rfl rfl Try.func95 (by kernel_rfl) rfl #[.int .i64 a0, .slice A1 l1.length c1, .slice Ao174 y417.length co174] rfl (by (try simp only [List.map_toArray, List.map_cons, List.map_nil]); first | done | rfl | (simp only [List.length_drop, List.length_take]; rfl)) ?_; (with_reducible refine (weigh_cased.calls a0 _ _ l1 _ _ y417 t420 _ ?side1 ?side2 ?side3 ?side4 A5.out).mono ?_); (case side1 => repeat (first | exact (Kd.C_below HR1.out HB.out) | (with_reducible refine Kd.C_alloc ?_ _) | (with_reducible refine Kd.C_drewN ?_ _) | (with_reducible refine Kd.C_drew ?_))); (case side2 => exact HC1.out); (case side3 => repeat (first | exact (Kd.R_reads' HO419.out).2.2 | (with_reducible refine Kd.C_alloc ?_ _) | (with_reducible refine Kd.C_drewN ?_ _) | (with_reducible refine Kd.C_drew ?_))); (case side4 => exact (Kd.R_reads' HO419.out).2.1); rintro e w175 ⟨rfl, hb⟩; refine ⟨_, rfl, ?_⟩; have n0_ := Aside0.mk (Kd.R_below (by (with_reducible repeat (first | apply Kd.R_alloc | apply Kd.R_drewN | apply Kd.R_drew)); exact HO419.out) hb); have n1_ := Aside0.mk (blk_below (g := gb415) (o := .cells #[.int .i64 a2_0, .int .i64 a2_1] 35 (0, 0)) (by (with_reducible repeat (first | refine blk_drewN ?_ _ | refine blk_drew ?_ | refine blk_alloc ?_ _)); exact BK415.out) hb); have n2_ := Aside0.mk (blk_below (g := gb416) (o := .cells #[.int .i64 a3_0, .int .i64 a3_1] 35 (0, 0)) (by (with_reducible repeat (first | refine blk_drewN ?_ _ | refine blk_drew ?_ | refine blk_alloc ?_ _)); exact BK416.out) hb); have n3_ := Aside0.mk (below_step (by repeat (first | (with_reducible first | exact HB.out | apply below_alloc | apply pw_below_drewN | apply below_drew1 | refine below_set ?_ GE415.out | refine below_set ?_ GE416.out) | exact HB.out)) hb); clear HO419; clear BK415; clear BK416; clear HB; have HO419 := n0_; have BK415 := n1_; have BK416 := n2_; have HB := n3_; clear n0_ n1_ n2_ n3_; (try clear hb); (try clear hb2); (try clear hk); (try clear hi)))
    go_ret
    exact ⟨by first | rfl | (simp [errW_none, errW_some] <;> rfl) | (simp [*, errW_none, errW_some] <;> rfl), by repeat (first | (with_reducible first | exact HB.out | apply below_alloc | apply pw_below_drewN | apply below_drew1 | refine below_set ?_ GE415.out | refine below_set ?_ GE416.out) | exact HB.out)⟩

end Go.Proofs.Ytdbeochifofdoaa.X
end

section
-- Written by a program of this session (wip/hook.py, which runs the kit's print.py with contracts proved by hand). Not trusted: Lean checks it.
namespace Go.Proofs.Ytdbeochifofdoaa.X
open Go.RowKit Go.Proofs.YtdbeochifofdoaaW.PrintWords Go.Proofs.YtdbeochifofdoaaW.PrintLast Go.Proofs.YtdbeochifofdoaaW.PrintMore
attribute [local go_sem] max2_int min2_int max_two min_two max_three min_three max_four min_four   -- for this text's walks alone
set_option linter.unusedVariables false
set_option linter.unusedSimpArgs false

/-! ### verditerlaw06_weighChecks: function 30 -/
def verditerlaw06_weighChecks.f (k : Nat) (a0 : Int) (l1 : List (S53)) (a2_0 : Int) (a2_1 : Int) (a2_2 : Int) (a2_3 : Int) : Option (Bool) := (verditerlaw06_Long.f k l1).bind fun t438 => (if t438 = true then ((verditerlaw06_known.f k).bind fun t439 => (some t439)) else ((weigh_CheckBad.f a0 l1 a2_0 a2_1 a2_2 a2_3).bind fun t440 => ((verditerref06_CheckBad.f k a0 l1 a2_0 a2_1 a2_2 a2_3).bind fun t441 => (if t440 = t441 then ((weigh_Tells.f a0 l1).bind fun bt442 => (if t440 = 0 then (if bt442.2 = 0 then (if bt442.1 = true then (some false) else ((verditerlaw06_known.f k).bind fun t444 => (some t444))) else (some false)) else ((verditerlaw06_known.f k).bind fun t445 => (some t445)))) else (some false)))))
theorem verditerlaw06_weighChecks.mono : ∀ a0 a1 a2 a3 a4 a5 k, LeO (verditerlaw06_weighChecks.f k a0 a1 a2 a3 a4 a5) (verditerlaw06_weighChecks.f (k + 1) a0 a1 a2 a3 a4 a5) := by
  intro a0 a1 a2 a3 a4 a5 k
  unfold verditerlaw06_weighChecks.f
  repeat' first
      | (with_reducible exact verditerlaw06_Long.mono _ _)
      | (with_reducible exact verditerlaw06_known.mono _)
      | (with_reducible exact verditerref06_CheckBad.mono _ _ _ _ _ _ _)
      | (with_reducible exact LeO.refl _)
      | (with_reducible exact LeO.none _)
      | (with_reducible refine LeO.ite ?_ ?_)
      | (with_reducible refine LeO.bind ?_ (fun _ => ?_))
      | exact verditerlaw06_Long.mono _ _
      | exact verditerlaw06_known.mono _
      | exact verditerref06_CheckBad.mono _ _ _ _ _ _ _
      | exact LeO.none _
      | refine LeO.ite ?_ ?_
      | refine LeO.bind ?_ (fun _ => ?_)
set_option maxHeartbeats 8000000 in
set_option maxRecDepth 100000 in
theorem verditerlaw06_weighChecks.calls (k : Nat) (a0 : Int) (A1 : Option Addr) (c1 : Nat) (l1 : List (S53)) (a2_0 : Int) (a2_1 : Int) (a2_2 : Int) (a2_3 : Int) (r : Bool) (w : World) (hr1 : Kd.C k53 w A1 l1.length l1) (hc1 : l1.length ≤ c1) (h : verditerlaw06_weighChecks.f k a0 l1 a2_0 a2_1 a2_2 a2_3 = some r) (hT : r = true) :
    Calls Try.prog 30 #[.int .i64 a0, .slice A1 l1.length c1, .agg #[.int .i64 a2_0, .int .i64 a2_1, .int .i64 a2_2, .int .i64 a2_3]] w fun e w' => e = .returned (.bool r) ∧ Below w.heap.size w w' := by
  have hu38 := Try.underlying38
  have hu35 := Try.underlying35
  have HR1 := Aside0.mk hr1
  have HC1 := Aside0.mk hc1
  clear hr1 hc1
  have HB := Aside0.mk (Below.refl w.heap.size w)
  have H : ((verditerlaw06_Long.f k l1).bind fun t438 => (if t438 = true then ((verditerlaw06_known.f k).bind fun t439 => (some t439)) else ((weigh_CheckBad.f a0 l1 a2_0 a2_1 a2_2 a2_3).bind fun t440 => ((verditerref06_CheckBad.f k a0 l1 a2_0 a2_1 a2_2 a2_3).bind fun t441 => (if t440 = t441 then ((weigh_Tells.f a0 l1).bind fun bt442 => (if t440 = 0 then (if bt442.2 = 0 then (if bt442.1 = true then (some false) else ((verditerlaw06_known.f k).bind fun t444 => (some t444))) else (some false)) else ((verditerlaw06_known.f k).bind fun t445 => (some t445)))) else (some false)))))) = some r := h
  clear h
  replace H := Option.bind_eq_some_iff.mp H
  obtain ⟨t438, A40, H⟩ := H
  replace H : (if t438 = true then ((verditerlaw06_known.f k).bind fun t439 => (some t439)) else ((weigh_CheckBad.f a0 l1 a2_0 a2_1 a2_2 a2_3).bind fun t440 => ((verditerref06_CheckBad.f k a0 l1 a2_0 a2_1 a2_2 a2_3).bind fun t441 => (if t440 = t441 then ((weigh_Tells.f a0 l1).bind fun bt442 => (if t440 = 0 then (if bt442.2 = 0 then (if bt442.1 = true then (some false) else ((verditerlaw06_known.f k).bind fun t444 => (some t444))) else (some false)) else ((verditerlaw06_known.f k).bind fun t445 => (some t445)))) else (some false))))) = some r := H
  have A4 := Aside0.mk A40
  clear A40
  by_cases c5 : t438 = true
  · subst c5
    have H1 : ((verditerlaw06_known.f k).bind fun t439 => (some t439)) = some r := by rw [if_pos rfl] at H; exact H
    clear H
    have H := H1
    clear H1
    replace H := Option.bind_eq_some_iff.mp H
    obtain ⟨t439, A60, H⟩ := H
    replace H : (some t439) = some r := H
    have A6 := Aside0.mk A60
    clear A60
    obtain rfl := Option.some.inj H
    go_enter Try.func30, Try.ntmps30
    go_wp2_with (first | ((with_reducible refine gate_dst (N := 5) rfl ?_); refine box_event ?hg (N := 5) ?hd (cs := #[.int .i64 a2_0, .int .i64 a2_1, .int .i64 a2_2, .int .i64 a2_3]) (t := 38) ?hr ?_; (case hd => rfl); (case hg => rfl); (case hr => first | (go_simp; done) | (go_simp; rfl)); intro gb437 hg w7 hbox hb; have n0_ := Aside0.mk (below_step (by repeat (first | (with_reducible first | exact HB.out | apply below_alloc | apply pw_below_drewN | apply below_drew1) | exact HB.out)) hb); have n1_ := Aside0.mk (hbox); have n2_ := Aside0.mk ((by rw [hg]; exact (below_size (by repeat (first | (with_reducible first | exact HB.out | apply below_alloc | apply pw_below_drewN | apply below_drew1) | exact HB.out))) : w.heap.size ≤ gb437)); have n3_ := Aside0.mk ((by rw [hg]; exact (below_size (by repeat (first | (with_reducible first | exact HB.out | apply below_alloc | apply pw_below_drewN | apply below_drew1) | exact HB.out))) : w.heap.size ≤ gb437)); clear HB; have HB := n0_; have BK437 := n1_; have GW437 := n2_; have GE437 := n3_; clear n0_ n1_ n2_ n3_; clear hb hbox hg) | ((with_reducible refine gate_callee (f := 43) rfl ?_); refine goesL_ (some 11) rfl rfl Try.func43 (by kernel_rfl) rfl #[.slice A1 l1.length c1] rfl (by (try simp only [List.map_toArray, List.map_cons, List.map_nil]); first | done | rfl | (simp only [List.length_drop, List.length_take]; rfl)) ?_; (with_reducible refine (verditerlaw06_Long.calls k _ _ l1 true _ ?side1 ?side2 A4.out).mono ?_); (case side1 => repeat (first | exact (Kd.C_below HR1.out HB.out) | (with_reducible refine Kd.C_alloc ?_ _) | (with_reducible refine Kd.C_drewN ?_ _) | (with_reducible refine Kd.C_drew ?_))); (case side2 => exact HC1.out); rintro e w' ⟨rfl, ⟨nd, rfl⟩⟩; refine ⟨_, rfl, ?_⟩) | ((with_reducible refine gate_callee (f := 25) rfl ?_); refine goesL_ (some 12) rfl rfl Try.func25 (by kernel_rfl) rfl #[] rfl (by (try simp only [List.map_toArray, List.map_cons, List.map_nil]); first | done | rfl | (simp only [List.length_drop, List.length_take]; rfl)) ?_; (with_reducible refine (verditerlaw06_known.calls k  t439 _ A6.out).mono ?_); rintro e w8 ⟨rfl, hb⟩; refine ⟨_, rfl, ?_⟩; have n0_ := Aside0.mk (blk_below (g := gb437) (o := .cells #[.int .i64 a2_0, .int .i64 a2_1, .int .i64 a2_2, .int .i64 a2_3] 38 (0, 0)) (by (with_reducible repeat (first | refine blk_drewN ?_ _ | refine blk_drew ?_ | refine blk_alloc ?_ _)); exact BK437.out) hb); have n1_ := Aside0.mk (below_step (by repeat (first | (with_reducible first | exact HB.out | apply below_alloc | apply pw_below_drewN | apply below_drew1 | refine below_set ?_ GE437.out) | exact HB.out)) hb); clear BK437; clear HB; have BK437 := n0_; have HB := n1_; clear n0_ n1_; (try clear hb); (try clear hb2); (try clear hk); (try clear hi)))
    go_ret
    exact ⟨by first | rfl | (simp [errW_none, errW_some] <;> rfl) | (simp [*, errW_none, errW_some] <;> rfl), by repeat (first | (with_reducible first | exact HB.out | apply below_alloc | apply pw_below_drewN | apply below_drew1 | refine below_set ?_ GE437.out) | exact HB.out)⟩
  · replace c5 := Bool.eq_false_iff.mpr c5
    subst c5
    have H1 : ((weigh_CheckBad.f a0 l1 a2_0 a2_1 a2_2 a2_3).bind fun t440 => ((verditerref06_CheckBad.f k a0 l1 a2_0 a2_1 a2_2 a2_3).bind fun t441 => (if t440 = t441 then ((weigh_Tells.f a0 l1).bind fun bt442 => (if t440 = 0 then (if bt442.2 = 0 then (if bt442.1 = true then (some false) else ((verditerlaw06_known.f k).bind fun t444 => (some t444))) else (some false)) else ((verditerlaw06_known.f k).bind fun t445 => (some t445)))) else (some false)))) = some r := by rw [if_neg (show ¬ (false = true) by decide)] at H; exact H
    clear H
    have H := H1
    clear H1
    replace H := Option.bind_eq_some_iff.mp H
    obtain ⟨t440, A90, H⟩ := H
    replace H : ((verditerref06_CheckBad.f k a0 l1 a2_0 a2_1 a2_2 a2_3).bind fun t441 => (if t440 = t441 then ((weigh_Tells.f a0 l1).bind fun bt442 => (if t440 = 0 then (if bt442.2 = 0 then (if bt442.1 = true then (some false) else ((verditerlaw06_known.f k).bind fun t444 => (some t444))) else (some false)) else ((verditerlaw06_known.f k).bind fun t445 => (some t445)))) else (some false))) = some r := H
    have A9 := Aside0.mk A90
    clear A90
    replace H := Option.bind_eq_some_iff.mp H
    obtain ⟨t441, A100, H⟩ := H
    replace H : (if t440 = t441 then ((weigh_Tells.f a0 l1).bind fun bt442 => (if t440 = 0 then (if bt442.2 = 0 then (if bt442.1 = true then (some false) else ((verditerlaw06_known.f k).bind fun t444 => (some t444))) else (some false)) else ((verditerlaw06_known.f k).bind fun t445 => (some t445)))) else (some false)) = some r := H
    have A10 := Aside0.mk A100
    clear A100
    by_cases c11 : t440 = t441
    · rw [if_pos c11] at H
      have c11b0 : (t440 == t441) = true := beq_iff_eq.mpr c11
      have c11b1 : (t440 != t441) = false := bne_eq_false_iff_eq.mpr c11
      clear c11
      replace H := Option.bind_eq_some_iff.mp H
      obtain ⟨⟨t442, t443⟩, A120, H⟩ := H
      replace H : (if t440 = 0 then (if t443 = 0 then (if t442 = true then (some false) else ((verditerlaw06_known.f k).bind fun t444 => (some t444))) else (some false)) else ((verditerlaw06_known.f k).bind fun t445 => (some t445))) = some r := H
      have A12 := Aside0.mk A120
      clear A120
      by_cases c13 : t440 = 0
      · rw [if_pos c13] at H
        have c13b0 : (t440 == 0) = true := beq_iff_eq.mpr c13
        have c13b1 : (t440 != 0) = false := bne_eq_false_iff_eq.mpr c13
        clear c13
        by_cases c14 : t443 = 0
        · rw [if_pos c14] at H
          have c14b0 : (t443 == 0) = true := beq_iff_eq.mpr c14
          have c14b1 : (t443 != 0) = false := bne_eq_false_iff_eq.mpr c14
          clear c14
          by_cases c15 : t442 = true
          · subst c15
            have H1 : (some false) = some r := by rw [if_pos rfl] at H; exact H
            clear H
            have H := H1
            clear H1
            exact absurd ((Option.some.inj H).trans hT) (by decide)
          · replace c15 := Bool.eq_false_iff.mpr c15
            subst c15
            have H1 : ((verditerlaw06_known.f k).bind fun t444 => (some t444)) = some r := by rw [if_neg (show ¬ (false = true) by decide)] at H; exact H
            clear H
            have H := H1
            clear H1
            replace H := Option.bind_eq_some_iff.mp H
            obtain ⟨t444, A220, H⟩ := H
            replace H : (some t444) = some r := H
            have A22 := Aside0.mk A220
            clear A220
            obtain rfl := Option.some.inj H
            go_enter Try.func30, Try.ntmps30
            go_wp2_with (first | ((with_reducible refine gate_dst (N := 5) rfl ?_); refine box_event ?hg (N := 5) ?hd (cs := #[.int .i64 a2_0, .int .i64 a2_1, .int .i64 a2_2, .int .i64 a2_3]) (t := 38) ?hr ?_; (case hd => rfl); (case hg => rfl); (case hr => first | (go_simp; done) | (go_simp; rfl)); intro gb437 hg w23 hbox hb; have n0_ := Aside0.mk (below_step (by repeat (first | (with_reducible first | exact HB.out | apply below_alloc | apply pw_below_drewN | apply below_drew1) | exact HB.out)) hb); have n1_ := Aside0.mk (hbox); have n2_ := Aside0.mk ((by rw [hg]; exact (below_size (by repeat (first | (with_reducible first | exact HB.out | apply below_alloc | apply pw_below_drewN | apply below_drew1) | exact HB.out))) : w.heap.size ≤ gb437)); have n3_ := Aside0.mk ((by rw [hg]; exact (below_size (by repeat (first | (with_reducible first | exact HB.out | apply below_alloc | apply pw_below_drewN | apply below_drew1) | exact HB.out))) : w.heap.size ≤ gb437)); clear HB; have HB := n0_; have BK437 := n1_; have GW437 := n2_; have GE437 := n3_; clear n0_ n1_ n2_ n3_; clear hb hbox hg) | ((with_reducible refine gate_callee (f := 43) rfl ?_); refine goesL_ (some 11) rfl rfl Try.func43 (by kernel_rfl) rfl #[.slice A1 l1.length c1] rfl (by (try simp only [List.map_toArray, List.map_cons, List.map_nil]); first | done | rfl | (simp only [List.length_drop, List.length_take]; rfl)) ?_; (with_reducible refine (verditerlaw06_Long.calls k _ _ l1 false _ ?side1 ?side2 A4.out).mono ?_); (case side1 => repeat (first | exact (Kd.C_below HR1.out HB.out) | (with_reducible refine Kd.C_alloc ?_ _) | (with_reducible refine Kd.C_drewN ?_ _) | (with_reducible refine Kd.C_drew ?_))); (case side2 => exact HC1.out); rintro e w' ⟨rfl, ⟨nd, rfl⟩⟩; refine ⟨_, rfl, ?_⟩; have hcz24_0 : w23.cell? ⟨gb437, 0, none⟩ = some (.int .i64 a2_0) := (blk_cell BK437.out 0).trans rfl; have hcz24_1 : w23.cell? ⟨gb437, 1, none⟩ = some (.int .i64 a2_1) := (blk_cell BK437.out 1).trans rfl; have hcz24_2 : w23.cell? ⟨gb437, 2, none⟩ = some (.int .i64 a2_2) := (blk_cell BK437.out 2).trans rfl; have hcz24_3 : w23.cell? ⟨gb437, 3, none⟩ = some (.int .i64 a2_3) := (blk_cell BK437.out 3).trans rfl; have hfz24_0 := blk_frozen BK437.out 0; have hfz24_1 := blk_frozen BK437.out 1; have hfz24_2 := blk_frozen BK437.out 2; have hfz24_3 := blk_frozen BK437.out 3) | ((with_reducible refine gate_callee (f := 61) rfl ?_); refine goesL_ (some 19) rfl rfl Try.func61 (by kernel_rfl) rfl #[.int .i64 a0, .slice A1 l1.length c1, .agg #[.int .i64 a2_0, .int .i64 a2_1], .agg #[.int .i64 a2_2, .int .i64 a2_3]] rfl (by (try simp only [List.map_toArray, List.map_cons, List.map_nil]); first | done | rfl | (simp only [List.length_drop, List.length_take]; rfl)) ?_; (with_reducible refine (weigh_CheckBad.calls a0 _ _ l1 a2_0 a2_1 a2_2 a2_3 t440 _ ?side1 ?side2 A9.out).mono ?_); (case side1 => repeat (first | exact (Kd.C_below HR1.out (by repeat (first | (with_reducible first | exact HB.out | apply below_alloc | apply pw_below_drewN | apply below_drew1 | refine below_set ?_ GE437.out) | exact HB.out))) | (with_reducible refine Kd.C_alloc ?_ _) | (with_reducible refine Kd.C_drewN ?_ _) | (with_reducible refine Kd.C_drew ?_))); (case side2 => exact HC1.out); rintro e w25 ⟨rfl, hb⟩; refine ⟨_, rfl, ?_⟩; have n0_ := Aside0.mk (blk_below (g := gb437) (o := .cells #[.int .i64 a2_0, .int .i64 a2_1, .int .i64 a2_2, .int .i64 a2_3] 38 (0, 0)) (by (with_reducible repeat (first | refine blk_drewN ?_ _ | refine blk_drew ?_ | refine blk_alloc ?_ _)); exact BK437.out) hb); have n1_ := Aside0.mk (below_step (by repeat (first | (with_reducible first | exact HB.out | apply below_alloc | apply pw_below_drewN | apply below_drew1 | refine below_set ?_ GE437.out) | exact HB.out)) hb); clear BK437; clear HB; have BK437 := n0_; have HB := n1_; clear n0_ n1_; (try clear hb); (try clear hb2); (try clear hk); (try clear hi); have hcz26_0 : w25.cell? ⟨gb437, 0, none⟩ = some (.int .i64 a2_0) := (blk_cell BK437.out 0).trans rfl; have hcz26_1 : w25.cell? ⟨gb437, 1, none⟩ = some (.int .i64 a2_1) := (blk_cell BK437.out 1).trans rfl; have hcz26_2 : w25.cell? ⟨gb437, 2, none⟩ = some (.int .i64 a2_2) := (blk_cell BK437.out 2).trans rfl; have hcz26_3 : w25.cell? ⟨gb437, 3, none⟩ = some (.int .i64 a2_3) := (blk_cell BK437.out 3).trans rfl; have hfz26_0 := blk_frozen BK437.out 0; have hfz26_1 := blk_frozen BK437.out 1; have hfz26_2 := blk_frozen BK437.out 2; have hfz26_3 := blk_frozen BK437.out 3) | ((with_reducible refine gate_callee (f := 46) rfl ?_); refine goesL_ (some 27) rfl rfl Try.func46 (by kernel_rfl) rfl #[.int .i64 a0, .slice A1 l1.length c1, .agg #[.int .i64 a2_0, .int .i64 a2_1], .agg #[.int .i64 a2_2, .int .i64 a2_3]] rfl (by (try simp only [List.map_toArray, List.map_cons, List.map_nil]); first | done | rfl | (simp only [List.length_drop, List.length_take]; rfl)) ?_; (with_reducible refine (verditerref06_CheckBad.calls k a0 _ _ l1 a2_0 a2_1 a2_2 a2_3 t441 _ ?side1 ?side2 A10.out).mono ?_); (case side1 => repeat (first | exact (Kd.C_below HR1.out HB.out) | (with_reducible refine Kd.C_alloc ?_ _) | (with_reducible refine Kd.C_drewN ?_ _) | (with_reducible refine Kd.C_drew ?_))); (case side2 => exact HC1.out); rintro e w27 ⟨rfl, hb⟩; refine ⟨_, rfl, ?_⟩; have n0_ := Aside0.mk (blk_below (g := gb437) (o := .cells #[.int .i64 a2_0, .int .i64 a2_1, .int .i64 a2_2, .int .i64 a2_3] 38 (0, 0)) (by (with_reducible repeat (first | refine blk_drewN ?_ _ | refine blk_drew ?_ | refine blk_alloc ?_ _)); exact BK437.out) hb); have n1_ := Aside0.mk (below_step (by repeat (first | (with_reducible first | exact HB.out | apply below_alloc | apply pw_below_drewN | apply below_drew1 | refine below_set ?_ GE437.out) | exact HB.out)) hb); clear BK437; clear HB; have BK437 := n0_; have HB := n1_; clear n0_ n1_; (try clear hb); (try clear hb2); (try clear hk); (try clear hi)) | ((with_reducible refine gate_callee (f := 44) rfl ?_); refine goesL_ (some 32) rfl rfl Try.func44 (by kernel_rfl) rfl #[.int .i64 a0, .slice A1 l1.length c1] rfl (by (try simp only [List.map_toArray, List.map_cons, List.map_nil]); first | done | rfl | (simp only [List.length_drop, List.length_take]; rfl)) ?_; (with_reducible refine (weigh_Tells.calls a0 _ _ l1 false t443 _ ?side1 ?side2 A12.out).mono ?_); (case side1 => repeat (first | exact (Kd.C_below HR1.out HB.out) | (with_reducible refine Kd.C_alloc ?_ _) | (with_reducible refine Kd.C_drewN ?_ _) | (with_reducible refine Kd.C_drew ?_))); (case side2 => exact HC1.out); rintro e w28 ⟨rfl, hb⟩; refine ⟨_, rfl, ?_⟩; have n0_ := Aside0.mk (blk_below (g := gb437) (o := .cells #[.int .i64 a2_0, .int .i64 a2_1, .int .i64 a2_2, .int .i64 a2_3] 38 (0, 0)) (by (with_reducible repeat (first | refine blk_drewN ?_ _ | refine blk_drew ?_ | refine blk_alloc ?_ _)); exact BK437.out) hb); have n1_ := Aside0.mk (below_step (by repeat (first | (with_reducible first | exact HB.out | apply below_alloc | apply pw_below_drewN | apply below_drew1 | refine below_set ?_ GE437.out) | exact HB.out)) hb); clear BK437; clear HB; have BK437 := n0_; have HB := n1_; clear n0_ n1_; (try clear hb); (try clear hb2); (try clear hk); (try clear hi)) | (go_at_call 25; (with_reducible refine (verditerlaw06_known.calls k  t444 _ A22.out).mono ?_); rintro e w29 ⟨rfl, hb⟩; have n0_ := Aside0.mk (blk_below (g := gb437) (o := .cells #[.int .i64 a2_0, .int .i64 a2_1, .int .i64 a2_2, .int .i64 a2_3] 38 (0, 0)) (by (with_reducible repeat (first | refine blk_drewN ?_ _ | refine blk_drew ?_ | refine blk_alloc ?_ _)); exact BK437.out) hb); have n1_ := Aside0.mk (below_step (by repeat (first | (with_reducible first | exact HB.out | apply below_alloc | apply pw_below_drewN | apply below_drew1 | refine below_set ?_ GE437.out) | exact HB.out)) hb); clear BK437; clear HB; have BK437 := n0_; have HB := n1_; clear n0_ n1_; (try clear hb); (try clear hb2); (try clear hk); (try clear hi)))
            go_ret
            exact ⟨by first | rfl | (simp [errW_none, errW_some] <;> rfl) | (simp [*, errW_none, errW_some] <;> rfl), by repeat (first | (with_reducible first | exact HB.out | apply below_alloc | apply pw_below_drewN | apply below_drew1 | refine below_set ?_ GE437.out) | exact HB.out)⟩
        · rw [if_neg c14] at H
          have c14b0 : (t443 == 0) = false := beq_eq_false_iff_ne.mpr c14
          have c14b1 : (t443 != 0) = true := bne_iff_ne.mpr c14
          exact absurd ((Option.some.inj H).trans hT) (by decide)
      · rw [if_neg c13] at H
        have c13b0 : (t440 == 0) = false := beq_eq_false_iff_ne.mpr c13
        have c13b1 : (t440 != 0) = true := bne_iff_ne.mpr c13
        replace H := Option.bind_eq_some_iff.mp H
        obtain ⟨t445, A360, H⟩ := H
        replace H : (some t445) = some r := H
        have A36 := Aside0.mk A360
        clear A360
        obtain rfl := Option.some.inj H
        go_enter Try.func30, Try.ntmps30
        go_wp2_with (first | ((with_reducible refine gate_dst (N := 5) rfl ?_); refine box_event ?hg (N := 5) ?hd (cs := #[.int .i64 a2_0, .int .i64 a2_1, .int .i64 a2_2, .int .i64 a2_3]) (t := 38) ?hr ?_; (case hd => rfl); (case hg => rfl); (case hr => first | (go_simp; done) | (go_simp; rfl)); intro gb437 hg w37 hbox hb; have n0_ := Aside0.mk (below_step (by repeat (first | (with_reducible first | exact HB.out | apply below_alloc | apply pw_below_drewN | apply below_drew1) | exact HB.out)) hb); have n1_ := Aside0.mk (hbox); have n2_ := Aside0.mk ((by rw [hg]; exact (below_size (by repeat (first | (with_reducible first | exact HB.out | apply below_alloc | apply pw_below_drewN | apply below_drew1) | exact HB.out))) : w.heap.size ≤ gb437)); have n3_ := Aside0.mk ((by rw [hg]; exact (below_size (by repeat (first | (with_reducible first | exact HB.out | apply below_alloc | apply pw_below_drewN | apply below_drew1) | exact HB.out))) : w.heap.size ≤ gb437)); clear HB; have HB := n0_; have BK437 := n1_; have GW437 := n2_; have GE437 := n3_; clear n0_ n1_ n2_ n3_; clear hb hbox hg) | ((with_reducible refine gate_callee (f := 43) rfl ?_); refine goesL_ (some 11) rfl rfl Try.func43 (by kernel_rfl) rfl #[.slice A1 l1.length c1] rfl (by (try simp only [List.map_toArray, List.map_cons, List.map_nil]); first | done | rfl | (simp only [List.length_drop, List.length_take]; rfl)) ?_; (with_reducible refine (verditerlaw06_Long.calls k _ _ l1 false _ ?side1 ?side2 A4.out).mono ?_); (case side1 => repeat (first | exact (Kd.C_below HR1.out HB.out) | (with_reducible refine Kd.C_alloc ?_ _) | (with_reducible refine Kd.C_drewN ?_ _) | (with_reducible refine Kd.C_drew ?_))); (case side2 => exact HC1.out); rintro e w' ⟨rfl, ⟨nd, rfl⟩⟩; refine ⟨_, rfl, ?_⟩; have hcz38_0 : w37.cell? ⟨gb437, 0, none⟩ = some (.int .i64 a2_0) := (blk_cell BK437.out 0).trans rfl; have hcz38_1 : w37.cell? ⟨gb437, 1, none⟩ = some (.int .i64 a2_1) := (blk_cell BK437.out 1).trans rfl; have hcz38_2 : w37.cell? ⟨gb437, 2, none⟩ = some (.int .i64 a2_2) := (blk_cell BK437.out 2).trans rfl; have hcz38_3 : w37.cell? ⟨gb437, 3, none⟩ = some (.int .i64 a2_3) := (blk_cell BK437.out 3).trans rfl; have hfz38_0 := blk_frozen BK437.out 0; have hfz38_1 := blk_frozen BK437.out 1; have hfz38_2 := blk_frozen BK437.out 2; have hfz38_3 := blk_frozen BK437.out 3) | ((with_reducible refine gate_callee (f := 61) rfl ?_); refine goesL_ (some 19) rfl rfl Try.func61 (by kernel_rfl) rfl #[.int .i64 a0, .slice A1 l1.length c1, .agg #[.int .i64 a2_0, .int .i64 a2_1], .agg #[.int .i64 a2_2, .int .i64 a2_3]] rfl (by (try simp only [List.map_toArray, List.map_cons, List.map_nil]); first | done | rfl | (simp only [List.length_drop, List.length_take]; rfl)) ?_; (with_reducible refine (weigh_CheckBad.calls a0 _ _ l1 a2_0 a2_1 a2_2 a2_3 t440 _ ?side1 ?side2 A9.out).mono ?_); (case side1 => repeat (first | exact (Kd.C_below HR1.out (by repeat (first | (with_reducible first | exact HB.out | apply below_alloc | apply pw_below_drewN | apply below_drew1 | refine below_set ?_ GE437.out) | exact HB.out))) | (with_reducible refine Kd.C_alloc ?_ _) | (with_reducible refine Kd.C_drewN ?_ _) | (with_reducible refine Kd.C_drew ?_))); (case side2 => exact HC1.out); rintro e w39 ⟨rfl, hb⟩; refine ⟨_, rfl, ?_⟩; have n0_ := Aside0.mk (blk_below (g := gb437) (o := .cells #[.int .i64 a2_0, .int .i64 a2_1, .int .i64 a2_2, .int .i64 a2_3] 38 (0, 0)) (by (with_reducible repeat (first | refine blk_drewN ?_ _ | refine blk_drew ?_ | refine blk_alloc ?_ _)); exact BK437.out) hb); have n1_ := Aside0.mk (below_step (by repeat (first | (with_reducible first | exact HB.out | apply below_alloc | apply pw_below_drewN | apply below_drew1 | refine below_set ?_ GE437.out) | exact HB.out)) hb); clear BK437; clear HB; have BK437 := n0_; have HB := n1_; clear n0_ n1_; (try clear hb); (try clear hb2); (try clear hk); (try clear hi); have hcz40_0 : w39.cell? ⟨gb437, 0, none⟩ = some (.int .i64 a2_0) := (blk_cell BK437.out 0).trans rfl; have hcz40_1 : w39.cell? ⟨gb437, 1, none⟩ = some (.int .i64 a2_1) := (blk_cell BK437.out 1).trans rfl; have hcz40_2 : w39.cell? ⟨gb437, 2, none⟩ = some (.int .i64 a2_2) := (blk_cell BK437.out 2).trans rfl; have hcz40_3 : w39.cell? ⟨gb437, 3, none⟩ = some (.int .i64 a2_3) := (blk_cell BK437.out 3).trans rfl; have hfz40_0 := blk_frozen BK437.out 0; have hfz40_1 := blk_frozen BK437.out 1; have hfz40_2 := blk_frozen BK437.out 2; have hfz40_3 := blk_frozen BK437.out 3) | ((with_reducible refine gate_callee (f := 46) rfl ?_); refine goesL_ (some 27) rfl rfl Try.func46 (by kernel_rfl) rfl #[.int .i64 a0, .slice A1 l1.length c1, .agg #[.int .i64 a2_0, .int .i64 a2_1], .agg #[.int .i64 a2_2, .int .i64 a2_3]] rfl (by (try simp only [List.map_toArray, List.map_cons, List.map_nil]); first | done | rfl | (simp only [List.length_drop, List.length_take]; rfl)) ?_; (with_reducible refine (verditerref06_CheckBad.calls k a0 _ _ l1 a2_0 a2_1 a2_2 a2_3 t441 _ ?side1 ?side2 A10.out).mono ?_); (case side1 => repeat (first | exact (Kd.C_below HR1.out HB.out) | (with_reducible refine Kd.C_alloc ?_ _) | (with_reducible refine Kd.C_drewN ?_ _) | (with_reducible refine Kd.C_drew ?_))); (case side2 => exact HC1.out); rintro e w41 ⟨rfl, hb⟩; refine ⟨_, rfl, ?_⟩; have n0_ := Aside0.mk (blk_below (g := gb437) (o := .cells #[.int .i64 a2_0, .int .i64 a2_1, .int .i64 a2_2, .int .i64 a2_3] 38 (0, 0)) (by (with_reducible repeat (first | refine blk_drewN ?_ _ | refine blk_drew ?_ | refine blk_alloc ?_ _)); exact BK437.out) hb); have n1_ := Aside0.mk (below_step (by repeat (first | (with_reducible first | exact HB.out | apply below_alloc | apply pw_below_drewN | apply below_drew1 | refine below_set ?_ GE437.out) | exact HB.out)) hb); clear BK437; clear HB; have BK437 := n0_; have HB := n1_; clear n0_ n1_; (try clear hb); (try clear hb2); (try clear hk); (try clear hi)) | ((with_reducible refine gate_callee (f := 44) rfl ?_); refine goesL_ (some 32) rfl rfl Try.func44 (by kernel_rfl) rfl #[.int .i64 a0, .slice A1 l1.length c1] rfl (by (try simp only [List.map_toArray, List.map_cons, List.map_nil]); first | done | rfl | (simp only [List.length_drop, List.length_take]; rfl)) ?_; (with_reducible refine (weigh_Tells.calls a0 _ _ l1 t442 t443 _ ?side1 ?side2 A12.out).mono ?_); (case side1 => repeat (first | exact (Kd.C_below HR1.out HB.out) | (with_reducible refine Kd.C_alloc ?_ _) | (with_reducible refine Kd.C_drewN ?_ _) | (with_reducible refine Kd.C_drew ?_))); (case side2 => exact HC1.out); rintro e w42 ⟨rfl, hb⟩; refine ⟨_, rfl, ?_⟩; have n0_ := Aside0.mk (blk_below (g := gb437) (o := .cells #[.int .i64 a2_0, .int .i64 a2_1, .int .i64 a2_2, .int .i64 a2_3] 38 (0, 0)) (by (with_reducible repeat (first | refine blk_drewN ?_ _ | refine blk_drew ?_ | refine blk_alloc ?_ _)); exact BK437.out) hb); have n1_ := Aside0.mk (below_step (by repeat (first | (with_reducible first | exact HB.out | apply below_alloc | apply pw_below_drewN | apply below_drew1 | refine below_set ?_ GE437.out) | exact HB.out)) hb); clear BK437; clear HB; have BK437 := n0_; have HB := n1_; clear n0_ n1_; (try clear hb); (try clear hb2); (try clear hk); (try clear hi)) | (go_at_call 25; (with_reducible refine (verditerlaw06_known.calls k  t445 _ A36.out).mono ?_); rintro e w43 ⟨rfl, hb⟩; have n0_ := Aside0.mk (blk_below (g := gb437) (o := .cells #[.int .i64 a2_0, .int .i64 a2_1, .int .i64 a2_2, .int .i64 a2_3] 38 (0, 0)) (by (with_reducible repeat (first | refine blk_drewN ?_ _ | refine blk_drew ?_ | refine blk_alloc ?_ _)); exact BK437.out) hb); have n1_ := Aside0.mk (below_step (by repeat (first | (with_reducible first | exact HB.out | apply below_alloc | apply pw_below_drewN | apply below_drew1 | refine below_set ?_ GE437.out) | exact HB.out)) hb); clear BK437; clear HB; have BK437 := n0_; have HB := n1_; clear n0_ n1_; (try clear hb); (try clear hb2); (try clear hk); (try clear hi)))
        go_ret
        exact ⟨by first | rfl | (simp [errW_none, errW_some] <;> rfl) | (simp [*, errW_none, errW_some] <;> rfl), by repeat (first | (with_reducible first | exact HB.out | apply below_alloc | apply pw_below_drewN | apply below_drew1 | refine below_set ?_ GE437.out) | exact HB.out)⟩
    · rw [if_neg c11] at H
      have c11b0 : (t440 == t441) = false := beq_eq_false_iff_ne.mpr c11
      have c11b1 : (t440 != t441) = true := bne_iff_ne.mpr c11
      exact absurd ((Option.some.inj H).trans hT) (by decide)

end Go.Proofs.Ytdbeochifofdoaa.X
end

section
/-! The law WeighChecks: own := KeepWeighings(plan); what it states; KeptWeighings(own, plan). -/
namespace Go.Proofs.Ytdbeochifofdoaa.X
open Go.RowKit Go.Proofs.YtdbeochifofdoaaW.PrintWords Go.Proofs.YtdbeochifofdoaaW.PrintLast Go.Proofs.YtdbeochifofdoaaW.PrintMore
set_option linter.unusedVariables false
set_option linter.unusedSimpArgs false

set_option maxHeartbeats 4000000 in
set_option maxRecDepth 100000 in
theorem weighChecks_calls (k : Nat) (a0 : Int) (A : Option Addr) (l : List S53) (ys : List S53) (b0 b1 b2 b3 : Int) (w : World) (hl : Kd.C k53 w A l.length l) (hc : l.length ≤ ys.length) (hF : FullW w A ys) (hn : ys.length ≤ 2932031007402)
    (hs : ∀ y, y ∈ ys → y.f0.length ≤ 17592186044416 ∧ y.f1.length ≤ 17592186044416) (h : verditerlaw06_weighChecks.f k a0 l b0 b1 b2 b3 = some true) :
    Calls Try.prog 9 #[.int .i64 a0, .slice A l.length ys.length, .agg #[.int .i64 b0, .int .i64 b1, .int .i64 b2, .int .i64 b3]] w fun e w' => e = .returned (.bool true) ∧ Below w.heap.size w w' := by
  have HL := Aside0.mk hl
  have HF := Aside0.mk hF
  have HS := Aside0.mk hs
  have H := Aside0.mk h
  clear hl hF hs h
  go_enter Try.func9, Try.ntmps9
  go_wp2_with fail
  have HB0 := Aside0.mk (below_alloc (Below.refl _ w) (.cells #[.int .i64 b0, .int .i64 b1, .int .i64 b2, .int .i64 b3] 38))
  refine (keepW_calls A l.length ys _ (HF.out.below HB0.out) hc hn HS.out).mono ?_
  rintro e w1 ⟨v, rfl, hN, hB1⟩
  obtain ⟨Ao, co, rfl⟩ := Kd.N_slice hN
  have HO := Aside0.mk (Kd.N_reads' hN).2.2
  have HB1 := Aside0.mk (HB0.out.trans (hB1.mono HB0.out.size))
  have hx0 : w1.cell? ⟨w.heap.size, 0, none⟩ = some (.int .i64 b0) := (hB1.cell (p := ⟨w.heap.size, 0, none⟩) (by simp)).trans (blk_cell (blk_new w _) 0)
  have hx1 : w1.cell? ⟨w.heap.size, 1, none⟩ = some (.int .i64 b1) := (hB1.cell (p := ⟨w.heap.size, 1, none⟩) (by simp)).trans (blk_cell (blk_new w _) 1)
  have hx2 : w1.cell? ⟨w.heap.size, 2, none⟩ = some (.int .i64 b2) := (hB1.cell (p := ⟨w.heap.size, 2, none⟩) (by simp)).trans (blk_cell (blk_new w _) 2)
  have hx3 : w1.cell? ⟨w.heap.size, 3, none⟩ = some (.int .i64 b3) := (hB1.cell (p := ⟨w.heap.size, 3, none⟩) (by simp)).trans (blk_cell (blk_new w _) 3)
  have hsz : w.heap.size < w1.heap.size := by have := hB1.size; simp at this; omega
  clear hN hB1
  go_wp2_with fail
  refine (verditerlaw06_weighChecks.calls k a0 A ys.length l b0 b1 b2 b3 true _ (Kd.C_below HL.out HB1.out) hc H.out rfl).mono ?_
  rintro e w2 ⟨rfl, hB2⟩
  have HB2 := Aside0.mk hB2
  have HB := Aside0.mk (HB1.out.trans (hB2.mono HB1.out.size))
  clear hB2
  go_wp2_with fail
  refine (keptW_calls Ao co A l.length ys _ (Kd.C_below HO.out HB2.out) (HF.out.below HB.out) hc).mono ?_
  rintro e w3 ⟨rfl, hB3⟩
  have HB3 := Aside0.mk (HB.out.trans (hB3.mono HB.out.size))
  clear hB3
  go_wp2
  go_ret
  exact ⟨rfl, HB3.out⟩
end Go.Proofs.Ytdbeochifofdoaa.X
end
