/- The law WeighMarks of the given program: the marks of the lots; the plan is made of them again.
Its conditions: none beyond the statement's own. Part 6 of 6 of the proof. -/
import Derived.Test.YtdbeochifofdoaaRows
import Derived.WalkKit
import Derived.ProofKit
import Derived.OpenShut
import Derived.ShutString
import Derived.ChangeOld
import Derived.Below
import Derived.Carry
import Derived.SizedLaws
import Derived.Test.YtdbeochifofdoaaKH4
section
-- Written by a program of this session (wip/hook.py, which runs the kit's print.py with contracts proved by hand). Not trusted: Lean checks it.
namespace Go.Proofs.Ytdbeochifofdoaa.X
open Go.RowKit Go.Proofs.YtdbeochifofdoaaW.PrintWords Go.Proofs.YtdbeochifofdoaaW.PrintLast Go.Proofs.YtdbeochifofdoaaW.PrintMore
attribute [local go_sem] max2_int min2_int max_two min_two max_three min_three max_four min_four   -- for this text's walks alone
set_option linter.unusedVariables false
set_option linter.unusedSimpArgs false

/-! ### verditerref06_Answers: function 56 -/
def verditerref06_Answers.f (k : Nat) (a0 : Int) (l1 : List (S53)) (a2_0 : Int) (a2_1 : Int) : Option (List Int × Int) := (verditerref06_cased.f k a0 l1 (([(⟨a2_0, a2_1⟩ : S35)] : List (S35)))).bind fun t385 => (if t385 = 0 then ((verditerref06_mark.f k l1 a2_0).bind fun t386 => ((verditerref06_times.f k t386 a2_1).bind fun t389 => (some (t389, 0)))) else (some (([] : List Int), t385)))
theorem verditerref06_Answers.mono : ∀ a0 a1 a2 a3 k, LeO (verditerref06_Answers.f k a0 a1 a2 a3) (verditerref06_Answers.f (k + 1) a0 a1 a2 a3) := by
  intro a0 a1 a2 a3 k
  unfold verditerref06_Answers.f
  repeat' first
      | (with_reducible exact verditerref06_cased.mono _ _ _ _)
      | (with_reducible exact verditerref06_mark.mono _ _ _)
      | (with_reducible exact verditerref06_times.mono _ _ _)
      | (with_reducible exact LeO.refl _)
      | (with_reducible exact LeO.none _)
      | (with_reducible refine LeO.ite ?_ ?_)
      | (with_reducible refine LeO.bind ?_ (fun _ => ?_))
      | exact verditerref06_cased.mono _ _ _ _
      | exact verditerref06_mark.mono _ _ _
      | exact verditerref06_times.mono _ _ _
      | exact LeO.none _
      | refine LeO.ite ?_ ?_
      | refine LeO.bind ?_ (fun _ => ?_)
def verditerref06_Answers.T4 : Bool × List (List Nat × List Nat) := (true, [([], []), ([], []), ([1], [1]), ([0, 2], [0, 2]), ([], []), ([4], [4]), ([3, 5, 3], [3, 5]), ([6, 6, 0, 1, 2, 3, 4, 5, 6], [6]), ([7, 0, 1, 2, 3, 4, 5, 6, 7], [])])
def verditerref06_Answers.B4 : List Nat := [0, 0, 2, 7, 0, 16, 63, 127, 255]
theorem verditerref06_Answers.tab4 : rtab .any (opsOf Try.f56 4) = verditerref06_Answers.T4 := by kernel_rfl
theorem verditerref06_Answers.bits4 : waitsOk verditerref06_Answers.T4.2 verditerref06_Answers.B4 = true := by kernel_rfl
set_option maxHeartbeats 8000000 in
set_option maxRecDepth 100000 in
theorem verditerref06_Answers.calls (k : Nat) (a0 : Int) (A1 : Option Addr) (c1 : Nat) (l1 : List (S53)) (a2_0 : Int) (a2_1 : Int) (r1 : List Int) (r2 : Int) (w : World) (hr1 : Kd.C k53 w A1 l1.length l1) (hc1 : l1.length ≤ c1) (h : verditerref06_Answers.f k a0 l1 a2_0 a2_1 = some (r1, r2)) :
    Calls Try.prog 56 #[.int .i64 a0, .slice A1 l1.length c1, .agg #[.int .i64 a2_0, .int .i64 a2_1]] w fun e w' => ∃ v0_ : Value, e = .returned (.tuple #[v0_, .int .i64 r2]) ∧ Kd.R (Kd.int .i64) 3 w' w.heap.size (fun _ => True) v0_ r1 ∧ Below w.heap.size w w' := by
  have hu35 := Try.underlying35
  have HR1 := Aside0.mk hr1
  have HC1 := Aside0.mk hc1
  clear hr1 hc1
  have HB := Aside0.mk (Below.refl w.heap.size w)
  have H : ((verditerref06_cased.f k a0 l1 (([(⟨a2_0, a2_1⟩ : S35)] : List (S35)))).bind fun t385 => (if t385 = 0 then ((verditerref06_mark.f k l1 a2_0).bind fun t386 => ((verditerref06_times.f k t386 a2_1).bind fun t389 => (some (t389, 0)))) else (some (([] : List Int), t385)))) = some (r1, r2) := h
  clear h
  obtain ⟨y382, hy382⟩ : ∃ y_ : List (S35), y_ = (([(⟨a2_0, a2_1⟩ : S35)] : List (S35))) := ⟨_, rfl⟩
  replace H : ((verditerref06_cased.f k a0 l1 y382).bind fun t385 => (if t385 = 0 then ((verditerref06_mark.f k l1 a2_0).bind fun t386 => ((verditerref06_times.f k t386 a2_1).bind fun t389 => (some (t389, 0)))) else (some (([] : List Int), t385)))) = some (r1, r2) := by first | (rw [hy382]; with_reducible exact H) | (have H2_ := (Option.bind_some _ _).symm.trans H; rw [hy382]; with_reducible exact H2_) | (have H2_ := (Option.bind_some _ _).symm.trans H; with_reducible exact H2_) | with_reducible exact H | (rw [hy382]; exact H) | exact H
  have Ny382 := Aside0.mk hy382
  clear hy382
  replace H := Option.bind_eq_some_iff.mp H
  obtain ⟨t385, A40, H⟩ := H
  replace H : (if t385 = 0 then ((verditerref06_mark.f k l1 a2_0).bind fun t386 => ((verditerref06_times.f k t386 a2_1).bind fun t389 => (some (t389, 0)))) else (some (([] : List Int), t385))) = some (r1, r2) := H
  have A4 := Aside0.mk A40
  clear A40
  by_cases c5 : t385 = 0
  · rw [if_pos c5] at H
    have c5b0 : (t385 == 0) = true := beq_iff_eq.mpr c5
    have c5b1 : (t385 != 0) = false := bne_eq_false_iff_eq.mpr c5
    clear c5
    replace H := Option.bind_eq_some_iff.mp H
    obtain ⟨t386, A60, H⟩ := H
    replace H : ((verditerref06_times.f k t386 a2_1).bind fun t389 => (some (t389, 0))) = some (r1, r2) := H
    have A6 := Aside0.mk A60
    clear A60
    replace H := Option.bind_eq_some_iff.mp H
    obtain ⟨t389, A70, H⟩ := H
    replace H : (some (t389, 0)) = some (r1, r2) := H
    have A7 := Aside0.mk A70
    clear A70
    simp only [Option.some.injEq, Prod.mk.injEq] at H
    obtain ⟨rfl, rfl⟩ := H
    go_enter Try.func56, Try.ntmps56
    try go_wp2_with (first | ((with_reducible refine gate_dst (N := 5) rfl ?_); refine box_event ?hg (N := 5) ?hd (cs := #[.int .i64 a2_0, .int .i64 a2_1]) (t := 35) ?hr ?_; (case hd => rfl); (case hg => rfl); (case hr => first | (go_simp; done) | (go_simp; rfl)); intro gb381 hg w8 hbox hb; have n0_ := Aside0.mk (below_step (by repeat (first | (with_reducible first | exact HB.out | apply below_alloc | apply pw_below_drewN | apply below_drew1) | exact HB.out)) hb); have n1_ := Aside0.mk (hbox); have n2_ := Aside0.mk ((by rw [hg]; exact (below_size (by repeat (first | (with_reducible first | exact HB.out | apply below_alloc | apply pw_below_drewN | apply below_drew1) | exact HB.out))) : w.heap.size ≤ gb381)); have n3_ := Aside0.mk ((by rw [hg]; exact (below_size (by repeat (first | (with_reducible first | exact HB.out | apply below_alloc | apply pw_below_drewN | apply below_drew1) | exact HB.out))) : w.heap.size ≤ gb381)); clear HB; have HB := n0_; have BK381 := n1_; have GW381 := n2_; have GE381 := n3_; clear n0_ n1_ n2_ n3_; clear hb hbox hg; have hcz9_0 : w8.cell? ⟨gb381, 0, none⟩ = some (.int .i64 a2_0) := (blk_cell BK381.out 0).trans rfl; have hcz9_1 : w8.cell? ⟨gb381, 1, none⟩ = some (.int .i64 a2_1) := (blk_cell BK381.out 1).trans rfl; have hfz9_0 := blk_frozen BK381.out 0; have hfz9_1 := blk_frozen BK381.out 1) | ((with_reducible refine gate_dst (N := 12) rfl ?_); refine Kd.R_lit k35 _ 35 ?hg (N := 12) ?hd (xs := ([(⟨a2_0, a2_1⟩ : S35)] : List (S35))) (inner := [.int .i64 a2_0, .int .i64 a2_1]) (ok := fun _ => True) (okp := fun _ => True) ?hr ?hp (fun _ hk => hk) trivial (Below.refl _ _) (Nat.le_refl _) (by simp) ?_; (case hd => rfl); (case hg => rfl); (case hr => first | (go_simp; done) | (go_simp; rfl)); (case hp => exact (Reps.c2 (show Kd.M k35 _ _ _ (⟨a2_0, a2_1⟩ : S35) [.int .i64 a2_0, .int .i64 a2_1] from (k35_mkM _ _ _ (⟨a2_0, a2_1⟩ : S35) )) (Reps.none _ _))); intro v383 w10 ho11 hb hg_ hnew_; clear hg_ hnew_; (first | rw [← Ny382.out] at ho11 | (simp only [Int.reduceToNat] at ho11; rw [← Ny382.out] at ho11)); have n0_ := Aside0.mk (Kd.R_lower (Kd.R_newB ho11 (g := gb381) (o := .cells #[.int .i64 a2_0, .int .i64 a2_1] 35 (0, 0)) (by (with_reducible repeat (first | refine blk_drewN ?_ _ | refine blk_drew ?_ | refine blk_alloc ?_ _)); exact BK381.out)) (below_size (by repeat (first | (with_reducible first | exact HB.out | apply below_alloc | apply pw_below_drewN | apply below_drew1 | refine below_set ?_ GE381.out) | exact HB.out)))); have n1_ := Aside0.mk (blk_below (g := gb381) (o := .cells #[.int .i64 a2_0, .int .i64 a2_1] 35 (0, 0)) (by (with_reducible repeat (first | refine blk_drewN ?_ _ | refine blk_drew ?_ | refine blk_alloc ?_ _)); exact BK381.out) hb); have n2_ := Aside0.mk (below_step (by repeat (first | (with_reducible first | exact HB.out | apply below_alloc | apply pw_below_drewN | apply below_drew1 | refine below_set ?_ GE381.out) | exact HB.out)) hb); clear BK381; clear HB; have HO384 := n0_; have BK381 := n1_; have HB := n2_; clear n0_ n1_ n2_; clear hb ho11; obtain ⟨Ao12, co12, eo12⟩ := Kd.R_slice HO384.out; subst eo12) | ((with_reducible refine gate_callee (f := 78) rfl ?_); refine goesL_ (some 13) rfl rfl Try.func78 (by kernel_rfl) rfl #[.int .i64 a0, .slice A1 l1.length c1, .slice Ao12 y382.length co12] rfl (by (try simp only [List.map_toArray, List.map_cons, List.map_nil]); first | done | rfl | (simp only [List.length_drop, List.length_take]; rfl)) ?_; (with_reducible refine (verditerref06_cased.calls k a0 _ _ l1 _ _ y382 t385 _ ?side1 ?side2 ?side3 ?side4 A4.out).mono ?_); (case side1 => repeat (first | exact (Kd.C_below HR1.out HB.out) | (with_reducible refine Kd.C_alloc ?_ _) | (with_reducible refine Kd.C_drewN ?_ _) | (with_reducible refine Kd.C_drew ?_))); (case side2 => exact HC1.out); (case side3 => repeat (first | exact (Kd.R_reads' HO384.out).2.2 | (with_reducible refine Kd.C_alloc ?_ _) | (with_reducible refine Kd.C_drewN ?_ _) | (with_reducible refine Kd.C_drew ?_))); (case side4 => exact (Kd.R_reads' HO384.out).2.1); rintro e w' ⟨rfl, ⟨nd, rfl⟩⟩; refine ⟨_, rfl, ?_⟩))
    (try (rw [drewN_self w10]; generalize hq_ : World.drewN w10 _ = w10; have n0_ : Aside0 (Kd.R k35 35 w10 w.heap.size (fun k_ => k_ ≠ gb381) (.slice Ao12 y382.length co12) y382) := ⟨by rw [← hq_]; exact (by (with_reducible repeat (first | apply Kd.R_alloc | apply Kd.R_drewN | apply Kd.R_drew)); exact Kd.R_mono HO384.out (fun _ hk => hk.2))⟩; have n1_ : Aside0 (w10.heap[gb381]? = some (.cells #[.int .i64 a2_0, .int .i64 a2_1] 35 (0, 0))) := ⟨by rw [← hq_]; exact (by (with_reducible repeat (first | refine blk_drewN ?_ _ | refine blk_drew ?_ | refine blk_alloc ?_ _)); exact BK381.out)⟩; have n2_ : Aside0 (Below w.heap.size w w10) := ⟨by rw [← hq_]; exact (by repeat (first | (with_reducible first | exact HB.out | apply below_alloc | apply pw_below_drewN | apply below_drew1 | refine below_set ?_ GE381.out) | exact HB.out))⟩; clear HO384 BK381 HB hq_; have HO384 := n0_; have BK381 := n1_; have HB := n2_; clear n0_ n1_ n2_))
    have n0_ := Aside0.mk (Kd.R_drew HO384.out)
    have n1_ := Aside0.mk (blk_drew BK381.out)
    have n2_ := Aside0.mk (below_drew1 HB.out)
    clear HO384
    clear BK381
    clear HB
    have HO384 := n0_
    have BK381 := n1_
    have HB := n2_
    clear n0_ n1_ n2_
    refine start_ (n := 9) (S := fun w' => w'.cell? ⟨gb381, 0, none⟩ = some (.int .i64 a2_0) ∧ w'.cell? ⟨gb381, 1, none⟩ = some (.int .i64 a2_1)) (ds := []) #[false, false, false, false, false, false, false, false, false] (by kernel_rfl) rfl rfl ⟨(blk_cell BK381.out 0).trans rfl, (blk_cell BK381.out 1).trans rfl⟩ (fun hHeld => ?_); refine with_tabW verditerref06_Answers.tab4 verditerref06_Answers.bits4 (fun HT_ HW_ => ?_)
    generalize w10.drew = w13 at HO384 BK381 HB hHeld ⊢
    refine pure_ (i := 0) (N := some 17) (v := ?_) (a' := ?_) #[true, false, false, false, false, false, false, false, false] rfl rfl (any_of HT_.out (by kernel_rfl)) (fun _ _ _ h => h) (Or.inl ⟨by rfl, ?_⟩) ?_ ?_
    rotate_left
    · intro w'
      go_simp
      with_reducible rfl
    rotate_left
    · simp only [Act.put, List.setIfInBounds_toArray, List.set_cons_zero, List.set_cons_succ, i64_w, i32_w]
      rfl
    refine pure_ (i := 1) (N := some 18) (v := ?_) (a' := ?_) #[true, true, false, false, false, false, false, false, false] rfl rfl (any_of HT_.out (by kernel_rfl)) (fun _ _ _ h => h) (Or.inl ⟨by rfl, ?_⟩) ?_ ?_
    rotate_left
    · intro w'
      go_simp
      with_reducible rfl
    rotate_left
    · simp only [Act.put, List.setIfInBounds_toArray, List.set_cons_zero, List.set_cons_succ, i64_w, i32_w]
      rfl
    refine pure_ (i := 4) (N := some 21) (v := ?_) (a' := ?_) #[true, true, false, false, true, false, false, false, false] rfl rfl (any_of HT_.out (by kernel_rfl)) (fun _ _ _ h => h) (Or.inl ⟨by rfl, ?_⟩) ?_ ?_
    rotate_left
    · intro w'
      go_simp
      with_reducible rfl
    rotate_left
    · simp only [Act.put, List.setIfInBounds_toArray, List.set_cons_zero, List.set_cons_succ, i64_w, i32_w]
      rfl
    refine take_ (i := 2) (N := some 19) (v := ?_) (a' := ?_) #[true, true, true, false, true, false, false, false, false] rfl rfl (take_ofW HT_.out HW_.out (by kernel_rfl)) (fun _ _ _ h => h) (Or.inl ⟨by rfl, ?_⟩) hHeld ?_ ?_
    rotate_left
    · rintro w' ⟨s0, s1⟩
      go_simp
      with_reducible rfl
    rotate_left
    · simp only [Act.put, List.setIfInBounds_toArray, List.set_cons_zero, List.set_cons_succ, i64_w, i32_w]
      rfl
    refine take_ (i := 5) (N := some 22) (v := ?_) (a' := ?_) #[true, true, true, false, true, true, false, false, false] rfl rfl (take_ofW HT_.out HW_.out (by kernel_rfl)) (fun _ _ _ h => h) (Or.inl ⟨by rfl, ?_⟩) hHeld ?_ ?_
    rotate_left
    · rintro w' ⟨s0, s1⟩
      go_simp
      with_reducible rfl
    rotate_left
    · simp only [Act.put, List.setIfInBounds_toArray, List.set_cons_zero, List.set_cons_succ, i64_w, i32_w]
      rfl
    refine one_ (i := 3) (N := some 20) #[true, true, true, true, true, true, false, false, false] rfl rfl (one_of HT_.out (by kernel_rfl)) (by decide) (fun K hK => ?_)
    refine goes_ Try.func80 (by kernel_rfl) rfl #[.slice A1 l1.length c1, .int .i64 a2_0] (by rfl) rfl rfl (by (try simp only [List.map_toArray, List.map_cons, List.map_nil]); first | done | rfl | (simp only [List.length_drop, List.length_take]; rfl)) ?_
    with_reducible refine (verditerref06_mark.calls k _ _ l1 a2_0 t386 _ ?side1 ?side2 A6.out).mono ?_
    (case side1 => repeat (first | exact (Kd.C_below HR1.out HB.out) | (with_reducible refine Kd.C_alloc ?_ _) | (with_reducible refine Kd.C_drewN ?_ _) | (with_reducible refine Kd.C_drew ?_)))
    (case side2 => exact HC1.out)
    rintro e w14 ⟨v387, rfl, ho0, hb⟩
    refine ⟨_, rfl, ?_⟩
    have n0_ := Aside0.mk (Kd.R_below (by (with_reducible repeat (first | apply Kd.R_alloc | apply Kd.R_drewN | apply Kd.R_drew)); exact HO384.out) hb)
    have n1_ := Aside0.mk (Kd.R_lower ho0 (below_size (by repeat (first | (with_reducible first | exact HB.out | apply below_alloc | apply pw_below_drewN | apply below_drew1 | refine below_set ?_ GE381.out) | exact HB.out))))
    have n2_ := Aside0.mk (blk_below (g := gb381) (o := .cells #[.int .i64 a2_0, .int .i64 a2_1] 35 (0, 0)) (by (with_reducible repeat (first | refine blk_drewN ?_ _ | refine blk_drew ?_ | refine blk_alloc ?_ _)); exact BK381.out) hb)
    have n3_ := Aside0.mk (below_step (by repeat (first | (with_reducible first | exact HB.out | apply below_alloc | apply pw_below_drewN | apply below_drew1 | refine below_set ?_ GE381.out) | exact HB.out)) hb)
    clear HO384
    clear BK381
    clear HB
    have HO384 := n0_
    have HO388 := n1_
    have BK381 := n2_
    have HB := n3_
    clear n0_ n1_ n2_ n3_
    (try clear hb)
    (try clear hb2)
    (try clear hk)
    (try clear hi)
    (try clear ho0)
    obtain ⟨Ao15, co15, eo15⟩ := Kd.R_slice HO388.out
    (first | subst eo15 | (injection eo15 with f1_ f2_ f3_; have f4_ := f1_.symm; have f5_ := f3_.symm; clear f1_ f2_ f3_; subst f4_; subst f5_))
    refine hK.out _ _ ⟨(blk_cell BK381.out 0).trans rfl, (blk_cell BK381.out 1).trans rfl⟩ (fun hHeld => ?_)
    clear hK K
    refine norm_ (a' := ?_) ?_ ?_
    rotate_left
    · show Act.put _ (some 20) _ = _
      simp only [Act.put, List.setIfInBounds_toArray, List.set_cons_zero, List.set_cons_succ, i64_w, i32_w]
      rfl
    refine one_ (i := 6) (N := some 23) #[true, true, true, true, true, true, true, false, false] rfl rfl (one_of HT_.out (by kernel_rfl)) (by decide) (fun K hK => ?_)
    refine goes_ Try.func79 (by kernel_rfl) rfl #[.slice Ao15 t386.length co15, .int .i64 a2_1] (by rfl) rfl rfl (by (try simp only [List.map_toArray, List.map_cons, List.map_nil]); first | done | rfl | (simp only [List.length_drop, List.length_take]; rfl)) ?_
    with_reducible refine (verditerref06_times.calls k _ _ t386 a2_1 t389 _ ?side1 ?side2 A7.out).mono ?_
    (case side1 => repeat (first | exact (Kd.R_reads' HO388.out).2.2 | (with_reducible refine Kd.C_alloc ?_ _) | (with_reducible refine Kd.C_drewN ?_ _) | (with_reducible refine Kd.C_drew ?_)))
    (case side2 => exact (Kd.R_reads' HO388.out).2.1)
    rintro e w16 ⟨v390, rfl, ho0, hb⟩
    refine ⟨_, rfl, ?_⟩
    have n0_ := Aside0.mk (Kd.R_below (by (with_reducible repeat (first | apply Kd.R_alloc | apply Kd.R_drewN | apply Kd.R_drew)); exact HO384.out) hb)
    have n1_ := Aside0.mk (Kd.R_elder' (by (with_reducible repeat (first | apply Kd.R_alloc | apply Kd.R_drewN | apply Kd.R_drew)); exact HO388.out) (Kd.R_base ho0) hb)
    have n2_ := Aside0.mk (Kd.R_lower (Kd.R_new' ho0 (Kd.R_lt (by (with_reducible repeat (first | apply Kd.R_alloc | apply Kd.R_drewN | apply Kd.R_drew)); exact HO388.out))) (below_size (by repeat (first | (with_reducible first | exact HB.out | apply below_alloc | apply pw_below_drewN | apply below_drew1 | refine below_set ?_ GE381.out) | exact HB.out))))
    have n3_ := Aside0.mk (blk_below (g := gb381) (o := .cells #[.int .i64 a2_0, .int .i64 a2_1] 35 (0, 0)) (by (with_reducible repeat (first | refine blk_drewN ?_ _ | refine blk_drew ?_ | refine blk_alloc ?_ _)); exact BK381.out) hb)
    have n4_ := Aside0.mk (below_step (by repeat (first | (with_reducible first | exact HB.out | apply below_alloc | apply pw_below_drewN | apply below_drew1 | refine below_set ?_ GE381.out) | exact HB.out)) hb)
    clear HO384
    clear HO388
    clear BK381
    clear HB
    have HO384 := n0_
    have HO388 := n1_
    have HO391 := n2_
    have BK381 := n3_
    have HB := n4_
    clear n0_ n1_ n2_ n3_ n4_
    (try clear hb)
    (try clear hb2)
    (try clear hk)
    (try clear hi)
    (try clear ho0)
    refine hK.out _ _ ⟨(blk_cell BK381.out 0).trans rfl, (blk_cell BK381.out 1).trans rfl⟩ (fun hHeld => ?_)
    clear hK K
    refine norm_ (a' := ?_) ?_ ?_
    rotate_left
    · show Act.put _ (some 23) _ = _
      simp only [Act.put, List.setIfInBounds_toArray, List.set_cons_zero, List.set_cons_succ, i64_w, i32_w]
      rfl
    refine pure_ (i := 7) (N := some 6) (v := ?_) (a' := ?_) #[true, true, true, true, true, true, true, true, false] rfl rfl (any_of HT_.out (by kernel_rfl)) (fun _ _ _ h => h) (Or.inl ⟨by rfl, ?_⟩) ?_ ?_
    rotate_left
    · intro w'
      go_simp
      with_reducible rfl
    rotate_left
    · simp only [Act.put, List.setIfInBounds_toArray, List.set_cons_zero, List.set_cons_succ, i64_w, i32_w]
      rfl
    refine pure_ (i := 8) (N := some 7) (v := ?_) (a' := ?_) #[true, true, true, true, true, true, true, true, true] rfl rfl (any_of HT_.out (by kernel_rfl)) (fun _ _ _ h => h) (Or.inl ⟨by rfl, ?_⟩) ?_ ?_
    rotate_left
    · intro w'
      go_simp
      with_reducible rfl
    rotate_left
    · simp only [Act.put, List.setIfInBounds_toArray, List.set_cons_zero, List.set_cons_succ, i64_w, i32_w]
      rfl
    refine done_ (done_of HT_.out (by kernel_rfl)) ?_
    try go_wp2
    go_ret2
    exact ⟨_, by first | rfl | (simp [errW_none, errW_some] <;> rfl) | (simp [*, errW_none, errW_some] <;> rfl), by (with_reducible repeat (first | apply Kd.R_alloc | apply Kd.R_drewN | apply Kd.R_drew)); exact Kd.R_mono HO391.out (fun _ hk => trivial), by repeat (first | (with_reducible first | exact HB.out | apply below_alloc | apply pw_below_drewN | apply below_drew1 | refine below_set ?_ GE381.out) | exact HB.out)⟩
  · rw [if_neg c5] at H
    have c5b0 : (t385 == 0) = false := beq_eq_false_iff_ne.mpr c5
    have c5b1 : (t385 != 0) = true := bne_iff_ne.mpr c5
    simp only [Option.some.injEq, Prod.mk.injEq] at H
    obtain ⟨rfl, rfl⟩ := H
    go_enter Try.func56, Try.ntmps56
    go_wp2_with (first | ((with_reducible refine gate_dst (N := 5) rfl ?_); refine box_event ?hg (N := 5) ?hd (cs := #[.int .i64 a2_0, .int .i64 a2_1]) (t := 35) ?hr ?_; (case hd => rfl); (case hg => rfl); (case hr => first | (go_simp; done) | (go_simp; rfl)); intro gb381 hg w17 hbox hb; have n0_ := Aside0.mk (below_step (by repeat (first | (with_reducible first | exact HB.out | apply below_alloc | apply pw_below_drewN | apply below_drew1) | exact HB.out)) hb); have n1_ := Aside0.mk (hbox); have n2_ := Aside0.mk ((by rw [hg]; exact (below_size (by repeat (first | (with_reducible first | exact HB.out | apply below_alloc | apply pw_below_drewN | apply below_drew1) | exact HB.out))) : w.heap.size ≤ gb381)); have n3_ := Aside0.mk ((by rw [hg]; exact (below_size (by repeat (first | (with_reducible first | exact HB.out | apply below_alloc | apply pw_below_drewN | apply below_drew1) | exact HB.out))) : w.heap.size ≤ gb381)); clear HB; have HB := n0_; have BK381 := n1_; have GW381 := n2_; have GE381 := n3_; clear n0_ n1_ n2_ n3_; clear hb hbox hg; have hcz18_0 : w17.cell? ⟨gb381, 0, none⟩ = some (.int .i64 a2_0) := (blk_cell BK381.out 0).trans rfl; have hcz18_1 : w17.cell? ⟨gb381, 1, none⟩ = some (.int .i64 a2_1) := (blk_cell BK381.out 1).trans rfl; have hfz18_0 := blk_frozen BK381.out 0; have hfz18_1 := blk_frozen BK381.out 1) | ((with_reducible refine gate_dst (N := 12) rfl ?_); refine Kd.R_lit k35 _ 35 ?hg (N := 12) ?hd (xs := ([(⟨a2_0, a2_1⟩ : S35)] : List (S35))) (inner := [.int .i64 a2_0, .int .i64 a2_1]) (ok := fun _ => True) (okp := fun _ => True) ?hr ?hp (fun _ hk => hk) trivial (Below.refl _ _) (Nat.le_refl _) (by simp) ?_; (case hd => rfl); (case hg => rfl); (case hr => first | (go_simp; done) | (go_simp; rfl)); (case hp => exact (Reps.c2 (show Kd.M k35 _ _ _ (⟨a2_0, a2_1⟩ : S35) [.int .i64 a2_0, .int .i64 a2_1] from (k35_mkM _ _ _ (⟨a2_0, a2_1⟩ : S35) )) (Reps.none _ _))); intro v383 w19 ho20 hb hg_ hnew_; clear hg_ hnew_; (first | rw [← Ny382.out] at ho20 | (simp only [Int.reduceToNat] at ho20; rw [← Ny382.out] at ho20)); have n0_ := Aside0.mk (Kd.R_lower (Kd.R_newB ho20 (g := gb381) (o := .cells #[.int .i64 a2_0, .int .i64 a2_1] 35 (0, 0)) (by (with_reducible repeat (first | refine blk_drewN ?_ _ | refine blk_drew ?_ | refine blk_alloc ?_ _)); exact BK381.out)) (below_size (by repeat (first | (with_reducible first | exact HB.out | apply below_alloc | apply pw_below_drewN | apply below_drew1 | refine below_set ?_ GE381.out) | exact HB.out)))); have n1_ := Aside0.mk (blk_below (g := gb381) (o := .cells #[.int .i64 a2_0, .int .i64 a2_1] 35 (0, 0)) (by (with_reducible repeat (first | refine blk_drewN ?_ _ | refine blk_drew ?_ | refine blk_alloc ?_ _)); exact BK381.out) hb); have n2_ := Aside0.mk (below_step (by repeat (first | (with_reducible first | exact HB.out | apply below_alloc | apply pw_below_drewN | apply below_drew1 | refine below_set ?_ GE381.out) | exact HB.out)) hb); clear BK381; clear HB; have HO384 := n0_; have BK381 := n1_; have HB := n2_; clear n0_ n1_ n2_; clear hb ho20; obtain ⟨Ao21, co21, eo21⟩ := Kd.R_slice HO384.out; subst eo21) | ((with_reducible refine gate_callee (f := 78) rfl ?_); refine goesL_ (some 13) rfl rfl Try.func78 (by kernel_rfl) rfl #[.int .i64 a0, .slice A1 l1.length c1, .slice Ao21 y382.length co21] rfl (by (try simp only [List.map_toArray, List.map_cons, List.map_nil]); first | done | rfl | (simp only [List.length_drop, List.length_take]; rfl)) ?_; (with_reducible refine (verditerref06_cased.calls k a0 _ _ l1 _ _ y382 t385 _ ?side1 ?side2 ?side3 ?side4 A4.out).mono ?_); (case side1 => repeat (first | exact (Kd.C_below HR1.out HB.out) | (with_reducible refine Kd.C_alloc ?_ _) | (with_reducible refine Kd.C_drewN ?_ _) | (with_reducible refine Kd.C_drew ?_))); (case side2 => exact HC1.out); (case side3 => repeat (first | exact (Kd.R_reads' HO384.out).2.2 | (with_reducible refine Kd.C_alloc ?_ _) | (with_reducible refine Kd.C_drewN ?_ _) | (with_reducible refine Kd.C_drew ?_))); (case side4 => exact (Kd.R_reads' HO384.out).2.1); rintro e w' ⟨rfl, ⟨nd, rfl⟩⟩; refine ⟨_, rfl, ?_⟩))
    go_ret2
    exact ⟨_, by first | rfl | (simp [errW_none, errW_some] <;> rfl) | (simp [*, errW_none, errW_some] <;> rfl), by first | exact Kd.R_nil _ _ _ _ _ | exact Kd.N_nil _ _ _ _ _ | exact Kd.V_nil _ _ _ _ _ | exact Kd.Q_nil _ _ _ _ _ | exact Kd.S_nil _ _ _ _ _, by repeat (first | (with_reducible first | exact HB.out | apply below_alloc | apply pw_below_drewN | apply below_drew1 | refine below_set ?_ GE381.out) | exact HB.out)⟩

end Go.Proofs.Ytdbeochifofdoaa.X
end

section
/-! The program's Answers, and the document's. -/
namespace Go.Proofs.Ytdbeochifofdoaa.X
open Go.RowKit Go.Proofs.YtdbeochifofdoaaW.PrintWords Go.Proofs.YtdbeochifofdoaaW.PrintLast
set_option linter.unusedVariables false
set_option linter.unusedSimpArgs false

theorem cut_ans (l : List S53) (hl : l.length ≤ 3) (n : Nat) (w : Int) : cut3 l.length (tim3 (mk3 l n) w) = ansB l n w := by
  match l, hl with
  | [], _ => rfl
  | [a], _ => simp only [cut3, tim3, mk3, refMark, ansB, List.map_cons, List.map_nil, List.getD_cons_zero, List.length_cons, List.length_nil, List.take_succ_cons, List.take_zero, Int.mul_comm w]
  | [a, b], _ => simp only [cut3, tim3, mk3, refMark, ansB, List.map_cons, List.map_nil, List.getD_cons_zero, List.getD_cons_succ, List.length_cons, List.length_nil, List.take_succ_cons, List.take_zero, Int.mul_comm w]
  | [a, b, c], _ => simp only [cut3, tim3, mk3, refMark, ansB, List.map_cons, List.map_nil, List.getD_cons_zero, List.getD_cons_succ, List.length_cons, List.length_nil, List.take_succ_cons, List.take_zero, Int.mul_comm w]
theorem getD_marks {lots : Int} {l : List S53} (hp : pErr lots l = 0) (n : Nat) (hn : (n : Int) < lots) : (marksL lots l).getD n z70 = mk3 l n := by
  rw [marksL_mk lots l (okP_pos (pErr_ok hp))]
  simp [List.getD_eq_getElem?_getD, show n < lots.toNat by omega]
theorem Answers_f (lots : Int) (l : List S53) (c0 c1 : Int) : weigh_Answers.f lots l c0 c1 = some (if cErr lots l [⟨c0, c1⟩] = 0 then (ansB l c0 c1, 0) else ([], cErr lots l [⟨c0, c1⟩])) := by
  unfold weigh_Answers.f
  by_cases h : cErr lots l [⟨c0, c1⟩] = 0
  · obtain ⟨hp, hc⟩ := cErr_ok h
    obtain ⟨a1, a2, _⟩ := hc ⟨c0, c1⟩ (by simp)
    dsimp only at a1 a2
    obtain ⟨n, rfl⟩ := Int.eq_ofNat_of_zero_le a1
    rw [if_pos h, if_pos h, show ((n : Int)).toNat = n from rfl, getD_marks hp n a2, cut_ans l (pErr_ok hp).few]
  · rw [if_neg h, if_neg h]
theorem refAnswers_f (lots : Int) (l : List S53) (hm : l.length < 9223372036854775807) (hs : ∀ y, y ∈ l → y.f0.length ≤ 50 ∧ y.f1.length ≤ 50) (c0 c1 : Int) (k : Nat) (hk : 800 ≤ k) :
    verditerref06_Answers.f k lots l c0 c1 = some (if cErr lots l [⟨c0, c1⟩] = 0 then (ansB l c0 c1, 0) else ([], cErr lots l [⟨c0, c1⟩])) := by
  unfold verditerref06_Answers.f
  rw [refCased_f lots l hm hs _ (by simp) k hk, Option.bind_some]
  by_cases h : cErr lots l [⟨c0, c1⟩] = 0
  · have ok := (pErr_ok (cErr_ok h).1).few
    have hlen : (refMark l c0).length ≤ 3 := by unfold refMark; rw [List.length_map]; exact ok
    have t0 : verditerref06_times.f k (refMark l c0) c1 = some (ansB l c0 c1) := times_f _ _ k (by omega) (by omega)
    rw [if_pos h, if_pos h, mark_f l c0 k (by omega) hs (by omega), Option.bind_some, t0, Option.bind_some]
  · rw [if_neg h, if_neg h]
theorem ans_len (l : List S53) (n w : Int) : (ansB l n w).length = l.length := by simp [ansB, refMark]
theorem ans_get (l : List S53) (n w : Int) (i : Nat) (hi : i < l.length) : (ansB l n w).getD i 0 = wrap64 (w * markOf n (l.getD i z53)) := by
  rw [ans_map]
  simp [List.getD_eq_getElem?_getD, List.getElem?_map, List.getElem?_eq_getElem hi]
theorem cErr_turn {lots : Int} {l : List S53} {c0 c1 : Int} (h : cErr lots l [⟨c0, c1⟩] = 0) (hc : c1 = 1 ∨ c1 = -1) : cErr lots l [⟨c0, -c1⟩] = 0 := by
  unfold cErr at h ⊢
  by_cases hp : pErr lots l = 0
  · rw [if_pos hp] at h ⊢
    simp only [List.any_cons, List.any_nil, Bool.or_false] at h ⊢
    split at h
    · cases h
    · rename_i h1
      rw [if_neg h1]
      rcases hc with rfl | rfl <;> decide
  · rw [if_neg hp] at h; exact absurd h hp
end Go.Proofs.Ytdbeochifofdoaa.X
end

section
/-! The program's Cases, by the document's marks. -/
namespace Go.Proofs.Ytdbeochifofdoaa.X
open Go.RowKit Go.Proofs.YtdbeochifofdoaaW.PrintWords Go.Proofs.YtdbeochifofdoaaW.PrintLast
set_option linter.unusedVariables false
set_option linter.unusedSimpArgs false

theorem eq3_ans (l : List S53) (hl : l.length ≤ 3) (n : Nat) (w : Int) (a : List Int) (ha : a.length = l.length) : eq3 (tim3 (mk3 l n) w) (of3 a) = (ansB l n w == a) := by
  have h0 : (wrap64 (0 * w) == 0) = true := by rw [Int.zero_mul, wr_of (by omega) (by omega)]; rfl
  have hn : (([] : List Int) == []) = true := rfl
  match l, hl, a, ha with
  | [], _, [], _ => simp only [eq3, tim3, of3, mk3, refMark, ansB, List.map_nil, List.getD_nil, h0, hn, Bool.and_true]
  | [b], _, [x], _ => simp only [eq3, tim3, of3, mk3, refMark, ansB, List.map_cons, List.map_nil, List.getD_cons_zero, List.getD_cons_succ, List.getD_nil, h0, List.cons_beq_cons, hn, Bool.and_true, Int.mul_comm w]
  | [b, c], _, [x, y], _ => simp only [eq3, tim3, of3, mk3, refMark, ansB, List.map_cons, List.map_nil, List.getD_cons_zero, List.getD_cons_succ, List.getD_nil, h0, List.cons_beq_cons, hn, Bool.and_true, Int.mul_comm w]
  | [b, c, d], _, [x, y, z], _ => simp only [eq3, tim3, of3, mk3, refMark, ansB, List.map_cons, List.map_nil, List.getD_cons_zero, List.getD_cons_succ, List.getD_nil, h0, List.cons_beq_cons, hn, Bool.and_true, Int.mul_comm w]
theorem isZ_of3 (a : List Int) (ha : a.length ≤ 3) : isZ (of3 a) = a.all (· == 0) := by
  match a, ha with
  | [], _ => rfl
  | [x], _ => simp [isZ, of3]
  | [x, y], _ => simp [isZ, of3]
  | [x, y, z], _ => simp [isZ, of3]
/-- The cases with given answers. -/
def hitL (lots : Int) (l : List S53) (a : List Int) : List S35 := (casesL lots).filter fun c => ansB l c.f0 c.f1 == a
theorem hit_is {lots : Int} {l : List S53} (hp : pErr lots l = 0) (a : List Int) (ha : a.length = l.length) : (casesL lots).filter (pickB (marksL lots l) (of3 a)) = hitL lots l a := by
  unfold hitL
  refine List.filter_congr fun c hc => ?_
  obtain ⟨h0, h1⟩ := casesL_mem hc
  obtain ⟨c0, c1⟩ := c
  dsimp only at h0 h1
  obtain ⟨n, rfl⟩ := Int.eq_ofNat_of_zero_le h0
  unfold pickB
  dsimp only
  rw [Int.toNat_natCast] at h1 ⊢
  rw [getD_marks hp n (by omega), eq3_ans l (pErr_ok hp).few n c1 a ha]
def casesV (lots : Int) (l : List S53) (a : List Int) : List S35 × Bool × Int :=
  if pErr lots l = 0 then (if a.length = l.length then (if sideB a = true then ([], false, 1) else (hitL lots l a, a.all (· == 0), 0)) else ([], false, 1)) else ([], false, pErr lots l)
theorem Cases_f (lots : Int) (l : List S53) (a : List Int) : weigh_Cases.f lots l a = some (casesV lots l a) := by
  unfold weigh_Cases.f casesV
  by_cases hp : pErr lots l = 0
  · rw [if_pos hp, if_pos hp]
    by_cases he : a.length = l.length
    · rw [if_pos he]
      cases hs : sideB a with
      | true => rw [if_pos (by simp), if_pos rfl]
      | false =>
        have few := (pErr_ok hp).few
        rw [if_neg (by simp [he]), if_neg (by simp), hit_is hp a he, isZ_of3 a (by omega)]
    · rw [if_neg he, if_pos (by simp [he])]
  · rw [if_neg hp, if_neg hp]
end Go.Proofs.Ytdbeochifofdoaa.X
end

section
/-! Marks, and the plan of marks. -/
namespace Go.Proofs.Ytdbeochifofdoaa.X
open Go.RowKit Go.Proofs.YtdbeochifofdoaaW.PrintWords Go.Proofs.YtdbeochifofdoaaW.PrintLast
set_option linter.unusedVariables false
set_option linter.unusedSimpArgs false

theorem cut3_mk (l : List S53) (hl : l.length ≤ 3) (n : Nat) : cut3 l.length (mk3 l n) = refMark l n := by
  match l, hl with
  | [], _ => rfl
  | [a], _ => rfl
  | [a, b], _ => rfl
  | [a, b, c], _ => rfl
/-- The marks of the lots. -/
def marksV (lots : Int) (l : List S53) : List (List Int) := (List.range lots.toNat).map fun n => refMark l (n : Nat)
theorem Marks_f (lots : Int) (l : List S53) : weigh_Marks.f lots l = some (if pErr lots l = 0 then (marksV lots l, 0) else ([], pErr lots l)) := by
  unfold weigh_Marks.f
  by_cases hp : pErr lots l = 0
  · rw [if_pos hp, if_pos hp, marksL_mk lots l (okP_pos (pErr_ok hp)), List.map_map]
    congr 2
    unfold marksV
    refine List.map_congr_left fun n _ => ?_
    exact cut3_mk l (pErr_ok hp).few n
  · rw [if_neg hp, if_neg hp]
/-- An ascending list of numbers below c. -/
theorem asc_of_set (c : Int) : ∀ (xs : List Int) (p : Option Int), setFrom c p xs = true → (∀ x, x ∈ xs → 0 ≤ x ∧ x < c ∧ ∀ q, p = some q → q < x) ∧ xs.Pairwise (· < ·)
  | [], p, _ => ⟨fun x hx => (by cases hx), List.Pairwise.nil⟩
  | x :: xs, p, h => by
    rw [setFrom_cons] at h
    simp only [Bool.and_eq_true, decide_eq_true_eq] at h
    obtain ⟨⟨⟨h0, h1⟩, h2⟩, h3⟩ := h
    have ih := asc_of_set c xs (some x) h3
    have hpx : ∀ q, p = some q → q < x := by
      intro q hq
      subst hq
      simpa [aboveB] using h2
    refine ⟨fun y hy => ?_, List.Pairwise.cons (fun y hy => (ih.1 y hy).2.2 x rfl) ih.2⟩
    rcases List.mem_cons.1 hy with rfl | hy
    · exact ⟨h0, by omega, hpx⟩
    · have := ih.1 y hy
      exact ⟨this.1, this.2.1, fun q hq => by have := this.2.2 x rfl; have := hpx q hq; omega⟩
theorem filter_asc : ∀ (d lo : Nat) (xs : List Int), xs.Pairwise (· < ·) → (∀ x, x ∈ xs → (lo : Int) ≤ x ∧ x < ((lo + d : Nat) : Int)) → ((List.range' lo d).filter (fun (n : Nat) => xs.contains (n : Int))).map (fun n => ((n : Nat) : Int)) = xs
  | 0, lo, xs, _, hb => by
    match xs, hb with
    | [], _ => rfl
    | x :: xs, hb =>
      have := hb x List.mem_cons_self
      omega
  | d + 1, lo, [], _, _ => by simp
  | d + 1, lo, x :: xs, hp, hb => by
    rw [List.pairwise_cons] at hp
    have hx := hb x List.mem_cons_self
    rw [List.range'_succ, List.filter_cons]
    by_cases he : (lo : Int) = x
    · have hc : (x :: xs).contains (lo : Int) = true := by simp [he]
      rw [if_pos hc, List.map_cons]
      have ih := filter_asc d (lo + 1) xs hp.2 (fun y hy => by
        have h1 := hp.1 y hy
        have h2 := hb y (List.mem_cons_of_mem _ hy)
        omega)
      rw [he]
      congr 1
      rw [← ih]
      congr 1
      rw [ih]
      refine List.filter_congr fun n hn => ?_
      rw [List.mem_range'_1] at hn
      rw [List.contains_cons]
      have : ((n : Int) == x) = false := by rw [beq_eq_false_iff_ne]; omega
      rw [this, Bool.false_or]
    · have hc : (x :: xs).contains (lo : Int) = false := by
        rw [List.contains_eq_any_beq, List.any_eq_false]
        intro y hy
        have : (lo : Int) ≠ y := by
          rcases List.mem_cons.1 hy with rfl | hy
          · exact he
          · have := hp.1 y hy
            omega
        simpa using this
      rw [if_neg (by rw [hc]; simp)]
      exact filter_asc d (lo + 1) (x :: xs) (List.pairwise_cons.2 hp) (fun y hy => by
        have h2 := hb y hy
        rcases List.mem_cons.1 hy with rfl | hy
        · omega
        · have := hp.1 y hy
          omega)
theorem sideI_map (k : Nat) (s : Int) (g : Nat → List Int) : ∀ (m n : Nat), sideI k s n ((List.range' n m).map g) = ((List.range' n m).filter (fun j => (g j).getD k 0 == s)).map (fun n => ((n : Nat) : Int))
  | 0, n => by simp [sideI]
  | m + 1, n => by
    rw [List.range'_succ, List.map_cons, List.filter_cons]
    unfold sideI
    rw [sideI_map k s g m (n + 1)]
    by_cases h : (g n).getD k 0 = s
    · rw [if_pos h, if_pos (beq_iff_eq.2 h)]; rfl
    · rw [if_neg h, if_neg (by simpa using h)]
theorem refMark_get (l : List S53) (n : Int) (k : Nat) (hk : k < l.length) : (refMark l n).getD k 0 = markOf n (l.getD k z53) := by
  simp [refMark, List.getD_eq_getElem?_getD, List.getElem?_map, List.getElem?_eq_getElem hk]
/-- The sides of a weighing, out of the marks. -/
theorem side_left {lots : Int} {y : S53} (h : OkW lots y) (hl : 0 ≤ lots) : ((List.range' 0 lots.toNat).filter (fun (n : Nat) => markOf (n : Int) y == 1)).map (fun n => ((n : Nat) : Int)) = y.f0 := by
  have ha := asc_of_set lots y.f0 none h.lset
  have e := filter_asc lots.toNat 0 y.f0 ha.2 (fun x hx => by have := ha.1 x hx; omega)
  refine (congrArg (List.map fun (n : Nat) => (n : Int)) (List.filter_congr fun n hn => ?_)).trans e
  unfold markOf
  cases h1 : y.f1.contains (n : Int) with
  | true =>
    have : y.f0.contains (n : Int) = false := by
      cases h0 : y.f0.contains (n : Int) with
      | false => rfl
      | true => exact absurd (by simpa using h1) (h.apart _ (by simpa using h0))
    rw [this]; rfl
  | false => cases y.f0.contains (n : Int) <;> rfl
theorem side_right {lots : Int} {y : S53} (h : OkW lots y) (hl : 0 ≤ lots) : ((List.range' 0 lots.toNat).filter (fun (n : Nat) => markOf (n : Int) y == -1)).map (fun n => ((n : Nat) : Int)) = y.f1 := by
  have ha := asc_of_set lots y.f1 none h.rset
  have e := filter_asc lots.toNat 0 y.f1 ha.2 (fun x hx => by have := ha.1 x hx; omega)
  refine (congrArg (List.map fun (n : Nat) => (n : Int)) (List.filter_congr fun n hn => ?_)).trans e
  unfold markOf
  cases y.f1.contains (n : Int) with
  | true => rfl
  | false => cases y.f0.contains (n : Int) <;> rfl
theorem sides {lots : Int} {l : List S53} (hp : pErr lots l = 0) (k : Nat) (hk : k < l.length) : sideI k 1 0 (marksV lots l) = (l.getD k z53).f0 ∧ sideI k (-1) 0 (marksV lots l) = (l.getD k z53).f1 := by
  have ok := pErr_ok hp
  have hlo := ok.lo
  have hw := ok.each _ (mem_getD z53 l k hk)
  unfold marksV
  rw [List.range_eq_range', sideI_map, sideI_map]
  simp only [refMark_get l _ k hk]
  exact ⟨side_left hw (by omega), side_right hw (by omega)⟩
theorem fromR_marks {lots : Int} {l : List S53} (hp : pErr lots l = 0) : ∀ (d k : Nat), k + d = l.length → fromR (marksV lots l) d k (l.take k) = (l, 0)
  | 0, k, h => by
    unfold fromR
    rw [List.take_of_length_le (by omega)]
  | d + 1, k, h => by
    have hk : k < l.length := by omega
    obtain ⟨e1, e2⟩ := sides hp k hk
    have hev := ((pErr_ok hp).each _ (mem_getD z53 l k hk)).even
    unfold fromR
    rw [e1, e2, if_pos hev]
    have ht : l.take (k + 1) = l.take k ++ [l.getD k z53] := by rw [List.take_succ_eq_append_getElem hk]; simp [List.getD_eq_getElem?_getD, List.getElem?_eq_getElem hk]
    have ih := fromR_marks hp d (k + 1) (by omega)
    rw [ht] at ih
    exact ih
theorem FromMarks_marks {lots : Int} {l : List S53} (hp : pErr lots l = 0) : weigh_FromMarks.f (marksV lots l) = some (l, 0) := by
  have ok := pErr_ok hp
  have hlo := ok.lo
  have hhi := ok.hi
  have few := ok.few
  have hlen : (marksV lots l).length = lots.toNat := by simp [marksV]
  have hel : ∀ m, m ∈ marksV lots l → ∃ n : Nat, m = refMark l n := by
    intro m hm
    obtain ⟨n, _, rfl⟩ := List.mem_map.1 hm
    exact ⟨n, rfl⟩
  have h0 : ((marksV lots l).getD 0 []).length = l.length := by
    obtain ⟨n, hn⟩ := hel _ (mem_getD ([] : List Int) (marksV lots l) 0 (by omega))
    rw [hn]
    simp [refMark]
  unfold weigh_FromMarks.f
  have hlb : lenB (marksV lots l) = false := by
    unfold lenB
    rw [List.any_eq_false]
    intro m hm
    obtain ⟨n, rfl⟩ := hel m hm
    simp [refMark]
    omega
  have hbr : (marksV lots l).any (badRow (marksV lots l)) = false := by
    rw [List.any_eq_false]
    intro m hm
    obtain ⟨n, rfl⟩ := hel m hm
    unfold badRow
    rw [h0]
    have : sideB (refMark l n) = false := by
      unfold sideB
      rw [List.any_eq_false]
      intro x hx
      obtain ⟨y, _, rfl⟩ := List.mem_map.1 hx
      have := markOf_small n y
      simp
      omega
    rw [this]
    simp [refMark]
  rw [if_pos (by rw [hlen]; simp; omega), hlb, hbr, if_neg (by simp), if_neg (by simp), h0]
  have := fromR_marks hp l.length 0 (by omega)
  rw [List.take_zero] at this
  rw [this]
end Go.Proofs.Ytdbeochifofdoaa.X
end

section
/-! known, with more rounds. -/
namespace Go.Proofs.Ytdbeochifofdoaa.X
open Go.RowKit Go.Proofs.YtdbeochifofdoaaW.PrintWords Go.Proofs.YtdbeochifofdoaaW.PrintLast
theorem known_at : ∀ k, verditerlaw06_known.f (20 + k) = some true
  | 0 => verditerlaw06_known.is_true
  | k + 1 => verditerlaw06_known.mono (20 + k) _ (known_at k)
theorem known_k {k : Nat} (h : 20 ≤ k) : verditerlaw06_known.f k = some true := by
  have := known_at (k - 20)
  rwa [show 20 + (k - 20) = k by omega] at this
end Go.Proofs.Ytdbeochifofdoaa.X
end

section
namespace Go.Proofs.Ytdbeochifofdoaa.Pure
open Go.RowKit Go.Proofs.Ytdbeochifofdoaa.X Go.Proofs.YtdbeochifofdoaaW.PrintWords Go.Proofs.YtdbeochifofdoaaW.PrintLast
theorem marks_l0 (n : Nat) (hn : n ≤ 13) (l : List S53) (hm : l.length ≤ 3) (hs : ∀ y, y ∈ l → y.f0.length ≤ 50 ∧ y.f1.length ≤ 50) :
    ∀ (d k i : Nat) (acc : List (List Int)), i + d = n → acc.length = i → d + 60 < k → verditerref06_Marks.l0 k n l acc i = some (acc ++ (List.range' i d).map (fun (j : Nat) => refMark l (j : Int)), 0)
  | 0, k + 1, i, acc, h1, h2, h3 => by
    unfold verditerref06_Marks.l0
    rw [if_neg (by omega)]
    simp
  | d + 1, k + 1, i, acc, h1, h2, h3 => by
    unfold verditerref06_Marks.l0
    have ih := marks_l0 n hn l hm hs d k (i + 1) (acc ++ [refMark l (i : Int)]) (by omega) (by simp [h2]) (by omega)
    rw [if_pos (by omega), mark_f l _ k (by omega) hs (by omega), Option.bind_some, if_pos (by omega), wrs i (by omega), ih, List.range'_succ, List.map_cons]
    simp
theorem refMarks_f (lots : Int) (l : List S53) (hm : l.length < 9223372036854775807) (hs : ∀ y, y ∈ l → y.f0.length ≤ 50 ∧ y.f1.length ≤ 50) (k : Nat) (hk : 800 ≤ k) :
    verditerref06_Marks.f k lots l = some (if pErr lots l = 0 then (marksV lots l, 0) else ([], pErr lots l)) := by
  unfold verditerref06_Marks.f
  rw [refValidate_f lots l hm hs k hk, Option.bind_some]
  by_cases hp : pErr lots l = 0
  · have ok := pErr_ok hp
    have hlo := ok.lo
    have hhi := ok.hi
    obtain ⟨n, rfl⟩ := Int.eq_ofNat_of_zero_le (show 0 ≤ lots by omega)
    have h := marks_l0 n (by omega) l ok.few hs n k 0 [] (by omega) rfl (by omega)
    rw [show ((0 : Nat) : Int) = 0 from rfl] at h
    rw [if_pos hp, if_pos hp, h]
    unfold marksV
    rw [Int.toNat_natCast, List.range_eq_range']
    rfl
  · rw [if_neg hp, if_neg hp]
theorem sameL_l0 (l : List (List Int)) (hl : l.length ≤ 50) (h3 : ∀ m, m ∈ l → m.length ≤ 50) : ∀ (d k i : Nat), i ≤ l.length → l.length - i = d → d + 60 < k → verditerref06_SameLists.l0 k l l i = some true
  | 0, k + 1, i, h1, h2, _ => by
    unfold verditerref06_SameLists.l0
    rw [if_neg (by omega)]
  | d + 1, k + 1, i, h1, h2, h3' => by
    unfold verditerref06_SameLists.l0
    have ih := sameL_l0 l hl h3 d k (i + 1) (by omega) (by omega) (by omega)
    have hm := h3 _ (mem_getD ([] : List Int) l i (by omega))
    rw [if_pos (by omega), if_pos (by omega), if_pos (by omega), show rd_L5 l (i : Int) = l.getD i [] from rfl, same_f _ _ k (by omega) (by omega), Option.bind_some, beq_self_eq_true, if_pos rfl, wrs i (by omega), ih]
theorem sameL_f (l : List (List Int)) (hl : l.length ≤ 50) (h3 : ∀ m, m ∈ l → m.length ≤ 50) (k : Nat) (hk : 200 ≤ k) : verditerref06_SameLists.f k l l = some true := by
  unfold verditerref06_SameLists.f
  rw [if_pos rfl]
  exact sameL_l0 l hl h3 l.length k 0 (by omega) (by omega) (by omega)
theorem sameP_l0 (l : List S53) (hl : l.length ≤ 50) (h3 : ∀ y, y ∈ l → y.f0.length ≤ 50 ∧ y.f1.length ≤ 50) : ∀ (d k i : Nat), i ≤ l.length → l.length - i = d → d + 60 < k → verditerref06_Same.l0 k l l i = some true
  | 0, k + 1, i, h1, h2, _ => by
    unfold verditerref06_Same.l0
    rw [if_neg (by omega)]
  | d + 1, k + 1, i, h1, h2, h3' => by
    unfold verditerref06_Same.l0
    have ih := sameP_l0 l hl h3 d k (i + 1) (by omega) (by omega) (by omega)
    have hm := h3 _ (mem_getD z53 l i (by omega))
    rw [if_pos (by omega), if_pos (by omega), if_pos (by omega), show rd_T53 l (i : Int) = l.getD i z53 from rfl, same_f _ _ k (by omega) (by omega), Option.bind_some, beq_self_eq_true, if_pos rfl, same_f _ _ k (by omega) (by omega), Option.bind_some, beq_self_eq_true, if_pos rfl, wrs i (by omega), ih]
theorem sameP_f (l : List S53) (hl : l.length ≤ 50) (h3 : ∀ y, y ∈ l → y.f0.length ≤ 50 ∧ y.f1.length ≤ 50) (k : Nat) (hk : 200 ≤ k) : verditerref06_Same.f k l l = some true := by
  unfold verditerref06_Same.f
  rw [if_pos rfl]
  exact sameP_l0 l hl h3 l.length k 0 (by omega) (by omega) (by omega)
theorem wm_j0 (k : Nat) (x1 : List S53) (x7 : List (List Int)) (x8 : Int) (b : Bool) : verditerlaw06_weighMarks.j0 (k + 1) x1 x7 x8 b = if b = true then (some false) else (if x8 = 0 then ((weigh_FromMarks.f x7).bind fun bt518 => (if bt518.2 = 0 then ((verditerref06_Same.f k bt518.1 x1).bind fun t522 => (if t522 = true then ((verditerlaw06_known.f k).bind fun t523 => (some t523)) else (some false))) else (some false))) else ((verditerlaw06_known.f k).bind fun t524 => (some t524))) := by
  rw [verditerlaw06_weighMarks.j0]
theorem WeighMarks (lots : Int) (l : List S53) (hl : l.length < 9223372036854775807) : ∃ k, verditerlaw06_weighMarks.f k lots l = some true := by
  refine ⟨2999 + 1, ?_⟩
  have hk : verditerlaw06_known.f 2999 = some true := known_k (by omega)
  unfold verditerlaw06_weighMarks.f
  rw [long_f l hl (2999 + 1) (by omega), Option.bind_some]
  cases hb : longB l with
  | true => rw [if_pos rfl, known_k (by omega)]; rfl
  | false =>
    have hs := (long_not hb).2
    rw [if_neg (by simp), refMarks_f lots l hl hs (2999 + 1) (by omega), Option.bind_some, Marks_f, Option.bind_some, if_pos rfl]
    by_cases hp : pErr lots l = 0
    · have ok := pErr_ok hp
      have hhi := ok.hi
      have few := ok.few
      rw [if_pos hp]
      dsimp only
      have hlen : (marksV lots l).length ≤ 50 := by simp [marksV]; omega
      have hel : ∀ m, m ∈ marksV lots l → m.length ≤ 50 := by
        intro m hm
        obtain ⟨n, _, rfl⟩ := List.mem_map.1 hm
        simp [refMark]
        omega
      rw [sameL_f _ hlen hel (2999 + 1) (by omega), Option.bind_some, wm_j0, if_neg (by simp), if_pos rfl, FromMarks_marks hp, Option.bind_some]
      dsimp only
      rw [if_pos rfl, sameP_f l (by omega) hs 2999 (by omega), Option.bind_some, if_pos rfl, hk]
      rfl
    · rw [if_neg hp]
      dsimp only
      rw [sameL_f _ (by simp) (by intro m hm; cases hm) (2999 + 1) (by omega), Option.bind_some, wm_j0, if_neg (by simp), if_neg hp, hk]
      rfl
end Go.Proofs.Ytdbeochifofdoaa.Pure
end

section
/-! The row of the law WeighMarks (after the rows that print.py writes). -/
namespace Go.Proofs.Ytdbeochifofdoaa.weighMarks
open Go.ChangeShapes Go.WideShapes Go.ChangeAt Go.RowKit
open Go.ChangeMaps (open_string shut_string)
set_option linter.unusedVariables false
theorem own : ownKnob Try.prog.godebug = none := by kernel_rfl
theorem laidOut : laidOutB Try.prog = true := by kernel_rfl
set_option maxRecDepth 100000 in
theorem lifted (os : Os) (started : os.Started) (H : Type) (enc : TypeId × Value → H) :
    ReturnsInHanded {} Try.checked os 12 .any (Rows.weighMarksSpec.pre6 enc Try.prog Try.f12 Rows.weighMarksRow.domain false) (Rows.weighMarksSpec.post enc Try.prog Try.f12 false true false false) := by
  refine returnsInHanded_of_change_sized (C := Try.checked) own started (by kernel_rfl) Try.func12
    (ChangeSpec.witness6 (enc := enc) (C := Try.checked) false ⟨#[], #[.int .i64 0, .slice none 0 0], []⟩ 8 (by kernel_rfl) (by kernel_rfl) (by kernel_rfl) (by kernel_rfl)) ?_
  intro W base args ds gs before hval0 hW hcnd hsz0 _
  have hsz : (DataW.weightsEach Try.prog (Try.f12.params.toList ++ Rows.weighMarksSpec.plain.varTypes Try.prog) (ds ++ gs)).all (· ≤ reachBytes) = true := hsz0
  have hval : ∀ (j : Nat) t v, Try.f12.params[j]? = some t → args[j]? = some v → Value.okWide Try.prog W .any base t v := hval0
  have hW' := hW
  obtain ⟨p, q, hA0, hV, rfl, hfz, hnd⟩ := hW
  have hA : DataW.TrodAll enc Try.prog W 0 (fun _ => true) true Try.f12.params.toList args.toList ds p := hA0
  rw [Try.params12] at hA hval hsz
  obtain ⟨v0, vs0, d0, ds0, p0, q0, hargs, rfl, rfl, h0, r0⟩ := trodAll_cons hA
  obtain ⟨v1, vs1, d1, ds1, p1, q1, rfl, rfl, rfl, h1, r1⟩ := trodAll_cons r0
  obtain ⟨rfl, rfl, rfl⟩ := trodAll_nil r1
  obtain rfl : args = #[v0, v1] := by cases args; simp_all
  obtain ⟨rfl, rfl⟩ := trodVars_none hV
  obtain ⟨a0, rfl, rfl, rfl, w0⟩ := open_int Try.underlying3 (hval 0 3 v0 rfl rfl) h0
  obtain ⟨a1, len1, cap1, rfl⟩ := okWide_slice Try.underlying22 (hval 1 22 v1 rfl rfl)
  have k1 := h1
  have lt1 : ∀ x ∈ p1, x.block < W.heap.size := by obtain ⟨m, hm⟩ := k1; exact DataW.trod_lt m _ _ _ hm
  obtain ⟨A, l, ys, e1, hle, hyl, hC, hF, hys, hl⟩ := X.open_plan h1 rfl (fun n hn => by
    have := List.all_eq_true.1 hsz n (DataW.weights_mem_each (j := 1) (t := 22) (d := d1) rfl rfl n hn)
    simpa using this)
  obtain ⟨rfl, rfl, rfl⟩ : a1 = A ∧ len1 = l.length ∧ cap1 = ys.length := by injection e1 with h1 h2 h3; exact ⟨h1, h2, h3⟩
  clear hA0 hval0 hsz0 hsz
  obtain ⟨k, hk⟩ := Pure.WeighMarks a0 l (by omega)
  refine (X.weighMarks_calls k a0 a1 l ys W hC hle hF hyl hys hk).mono fun e W' ⟨he, bel⟩ => ?_
  subst he
  exact ⟨_, rfl, _, _, _, [], _, [], hW', trodAll_mk1 (shut_bool Try.underlying4 _), (trodAll_cons_mk (shut_int Try.underlying3 w0) (trodAll_cons_mk (Below.trod laidOut (by kernel_rfl) (of_decide_eq_true (by kernel_rfl)) k1 bel lt1) trodAll_mk0)), rfl, bel.frame _, fun h => by cases h⟩
theorem over : Rows.weighMarksRow.holds Try.pinned (OpenSpec.ofChange Rows.weighMarksSpec) :=
  OpenClaim.holds_of_wide 12 Try.f12 rfl rfl rfl rfl rfl rfl rfl ⟨rfl, rfl, rfl, rfl, rfl⟩ rfl rfl rfl rfl rfl (by kernel_rfl) Try.func12 (by kernel_rfl)
    (of_decide_eq_true (by kernel_rfl)) (by unfold Func.isWrapper; first | (rw [if_pos (by decide +kernel)]; kernel_rfl) | (rw [if_neg (by decide +kernel)]; exact ⟨rfl, rfl⟩))
    (fun os started H enc _ => lifted os started H enc)
theorem proved : Rows.WeighMarksSaid := over
end Go.Proofs.Ytdbeochifofdoaa.weighMarks
namespace Go.Proofs.Ytdbeochifofdoaa
/-- The row, under a short name, for the claim. -/
theorem weighMarks_holds : Rows.WeighMarksSaid := weighMarks.proved
end Go.Proofs.Ytdbeochifofdoaa
end
