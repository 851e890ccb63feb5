/- Mirror exchanges the sides of a weighing, Without leaves a weighing out: for all plans and numbers.
Its conditions: none beyond the statement's own. Part 5 of 5 of the proof. -/
import Derived.ChangeArms
import Derived.ChangeSlices
import Derived.SizedLaws
import Derived.Test.YtdbeochifofdoaaRows
import Derived.WalkKit
import Derived.ProofKit
import Derived.OpenShut
import Derived.ShutString
import Derived.ChangeOld
import Derived.Below
import Derived.Carry
import Derived.Test.YtdbeochifofdoaaM3
section
-- Written by a program of this session (wip/hook.py, which runs the kit's print.py with contracts proved by hand). Not trusted: Lean checks it.
namespace Go.Proofs.Ytdbeochifofdoaa.X
open Go.RowKit Go.Proofs.YtdbeochifofdoaaW.PrintWords Go.Proofs.YtdbeochifofdoaaW.PrintLast Go.Proofs.YtdbeochifofdoaaW.PrintMore
attribute [local go_sem] max2_int min2_int max_two min_two max_three min_three max_four min_four   -- for this text's walks alone
set_option linter.unusedVariables false
set_option linter.unusedSimpArgs false

/-! ### verditerlaw06_known: function 25 -/
def verditerlaw06_known.f (k : Nat)  : Option (Bool) := (verditerlaw06_example.f).bind fun t156 => ((weigh_Marks.f 3 t156).bind fun bt159 => ((verditerlaw06_example.f).bind fun t163 => ((weigh_Tells.f 3 t163).bind fun bt166 => ((weigh_Most.f k 2).bind fun bt168 => (if bt159.2 = 0 then ((verditerref06_SameLists.f k bt159.1 (([(([1, 0] : List Int)), (([(-1), 1] : List Int)), (([0, (-1)] : List Int))] : List (List Int)))).bind fun t182 => (if t182 = true then (if bt166.2 = 0 then (if bt166.1 = true then (if bt168.2 = 0 then (some (bt168.1 == 3)) else (some false)) else (some false)) else (some false)) else (some false))) else (some false))))))
theorem verditerlaw06_known.mono : ∀ k, LeO (verditerlaw06_known.f k ) (verditerlaw06_known.f (k + 1) ) := by
  intro  k
  unfold verditerlaw06_known.f
  repeat' first
      | (with_reducible exact verditerref06_SameLists.mono _ _ _)
      | (with_reducible exact weigh_Most.mono _ _)
      | (with_reducible exact LeO.refl _)
      | (with_reducible exact LeO.none _)
      | (with_reducible refine LeO.ite ?_ ?_)
      | (with_reducible refine LeO.bind ?_ (fun _ => ?_))
      | exact verditerref06_SameLists.mono _ _ _
      | exact weigh_Most.mono _ _
      | exact LeO.none _
      | refine LeO.ite ?_ ?_
      | refine LeO.bind ?_ (fun _ => ?_)
set_option maxRecDepth 100000 in
theorem verditerlaw06_known.is_true : verditerlaw06_known.f 20 = some true := by decide +kernel
theorem verditerlaw06_known.go_on {k : Nat} {r : Bool} (h : verditerlaw06_known.f k = some r) : ∀ d, verditerlaw06_known.f (k + d) = some r
  | 0 => h
  | d + 1 => verditerlaw06_known.mono (k + d) _ (verditerlaw06_known.go_on h d)
theorem verditerlaw06_known.only {k : Nat} {r : Bool} (h : verditerlaw06_known.f k = some r) : r = true := by
  have h1 := verditerlaw06_known.go_on h 20
  have h2 := verditerlaw06_known.go_on verditerlaw06_known.is_true k
  rw [Nat.add_comm, h1] at h2
  exact Option.some.inj h2
set_option maxHeartbeats 8000000 in
set_option maxRecDepth 100000 in
theorem verditerlaw06_known.calls (k : Nat)  (r : Bool) (w : World) (h : verditerlaw06_known.f k  = some r) :
    Calls Try.prog 25 #[] w fun e w' => e = .returned (.bool r) ∧ Below w.heap.size w w' := by
  have hT : r = true := verditerlaw06_known.only h
  have HB := Aside0.mk (Below.refl w.heap.size w)
  have H : ((verditerlaw06_example.f).bind fun t156 => ((weigh_Marks.f 3 t156).bind fun bt159 => ((verditerlaw06_example.f).bind fun t163 => ((weigh_Tells.f 3 t163).bind fun bt166 => ((weigh_Most.f k 2).bind fun bt168 => (if bt159.2 = 0 then ((verditerref06_SameLists.f k bt159.1 (([(([1, 0] : List Int)), (([(-1), 1] : List Int)), (([0, (-1)] : List Int))] : List (List Int)))).bind fun t182 => (if t182 = true then (if bt166.2 = 0 then (if bt166.1 = true then (if bt168.2 = 0 then (some (bt168.1 == 3)) else (some false)) else (some false)) else (some false)) else (some false))) else (some false))))))) = some r := h
  clear h
  replace H := Option.bind_eq_some_iff.mp H
  obtain ⟨t156, A10, H⟩ := H
  replace H : ((weigh_Marks.f 3 t156).bind fun bt159 => ((verditerlaw06_example.f).bind fun t163 => ((weigh_Tells.f 3 t163).bind fun bt166 => ((weigh_Most.f k 2).bind fun bt168 => (if bt159.2 = 0 then ((verditerref06_SameLists.f k bt159.1 (([(([1, 0] : List Int)), (([(-1), 1] : List Int)), (([0, (-1)] : List Int))] : List (List Int)))).bind fun t182 => (if t182 = true then (if bt166.2 = 0 then (if bt166.1 = true then (if bt168.2 = 0 then (some (bt168.1 == 3)) else (some false)) else (some false)) else (some false)) else (some false))) else (some false)))))) = some r := H
  have A1 := Aside0.mk A10
  clear A10
  replace H := Option.bind_eq_some_iff.mp H
  obtain ⟨⟨t159, t162⟩, A20, H⟩ := H
  replace H : ((verditerlaw06_example.f).bind fun t163 => ((weigh_Tells.f 3 t163).bind fun bt166 => ((weigh_Most.f k 2).bind fun bt168 => (if t162 = 0 then ((verditerref06_SameLists.f k t159 (([(([1, 0] : List Int)), (([(-1), 1] : List Int)), (([0, (-1)] : List Int))] : List (List Int)))).bind fun t182 => (if t182 = true then (if bt166.2 = 0 then (if bt166.1 = true then (if bt168.2 = 0 then (some (bt168.1 == 3)) else (some false)) else (some false)) else (some false)) else (some false))) else (some false))))) = some r := H
  have A2 := Aside0.mk A20
  clear A20
  replace H := Option.bind_eq_some_iff.mp H
  obtain ⟨t163, A30, H⟩ := H
  replace H : ((weigh_Tells.f 3 t163).bind fun bt166 => ((weigh_Most.f k 2).bind fun bt168 => (if t162 = 0 then ((verditerref06_SameLists.f k t159 (([(([1, 0] : List Int)), (([(-1), 1] : List Int)), (([0, (-1)] : List Int))] : List (List Int)))).bind fun t182 => (if t182 = true then (if bt166.2 = 0 then (if bt166.1 = true then (if bt168.2 = 0 then (some (bt168.1 == 3)) else (some false)) else (some false)) else (some false)) else (some false))) else (some false)))) = some r := H
  have A3 := Aside0.mk A30
  clear A30
  replace H := Option.bind_eq_some_iff.mp H
  obtain ⟨⟨t166, t167⟩, A40, H⟩ := H
  replace H : ((weigh_Most.f k 2).bind fun bt168 => (if t162 = 0 then ((verditerref06_SameLists.f k t159 (([(([1, 0] : List Int)), (([(-1), 1] : List Int)), (([0, (-1)] : List Int))] : List (List Int)))).bind fun t182 => (if t182 = true then (if t167 = 0 then (if t166 = true then (if bt168.2 = 0 then (some (bt168.1 == 3)) else (some false)) else (some false)) else (some false)) else (some false))) else (some false))) = some r := H
  have A4 := Aside0.mk A40
  clear A40
  replace H := Option.bind_eq_some_iff.mp H
  obtain ⟨⟨t168, t169⟩, A50, H⟩ := H
  replace H : (if t162 = 0 then ((verditerref06_SameLists.f k t159 (([(([1, 0] : List Int)), (([(-1), 1] : List Int)), (([0, (-1)] : List Int))] : List (List Int)))).bind fun t182 => (if t182 = true then (if t167 = 0 then (if t166 = true then (if t169 = 0 then (some (t168 == 3)) else (some false)) else (some false)) else (some false)) else (some false))) else (some false)) = some r := H
  have A5 := Aside0.mk A50
  clear A50
  by_cases c6 : t162 = 0
  · rw [if_pos c6] at H
    have c6b0 : (t162 == 0) = true := beq_iff_eq.mpr c6
    have c6b1 : (t162 != 0) = false := bne_eq_false_iff_eq.mpr c6
    clear c6
    obtain ⟨y170, hy170⟩ : ∃ y_ : List Int, y_ = (([1, 0] : List Int)) := ⟨_, rfl⟩
    replace H : ((verditerref06_SameLists.f k t159 (([y170, (([(-1), 1] : List Int)), (([0, (-1)] : List Int))] : List (List Int)))).bind fun t182 => (if t182 = true then (if t167 = 0 then (if t166 = true then (if t169 = 0 then (some (t168 == 3)) else (some false)) else (some false)) else (some false)) else (some false))) = some r := by first | (rw [hy170]; with_reducible exact H) | (have H2_ := (Option.bind_some _ _).symm.trans H; rw [hy170]; with_reducible exact H2_) | (have H2_ := (Option.bind_some _ _).symm.trans H; with_reducible exact H2_) | with_reducible exact H | (rw [hy170]; exact H) | exact H
    have Ny170 := Aside0.mk hy170
    clear hy170
    obtain ⟨y173, hy173⟩ : ∃ y_ : List Int, y_ = (([(-1), 1] : List Int)) := ⟨_, rfl⟩
    replace H : ((verditerref06_SameLists.f k t159 (([y170, y173, (([0, (-1)] : List Int))] : List (List Int)))).bind fun t182 => (if t182 = true then (if t167 = 0 then (if t166 = true then (if t169 = 0 then (some (t168 == 3)) else (some false)) else (some false)) else (some false)) else (some false))) = some r := by first | (rw [hy173]; with_reducible exact H) | (have H2_ := (Option.bind_some _ _).symm.trans H; rw [hy173]; with_reducible exact H2_) | (have H2_ := (Option.bind_some _ _).symm.trans H; with_reducible exact H2_) | with_reducible exact H | (rw [hy173]; exact H) | exact H
    have Ny173 := Aside0.mk hy173
    clear hy173
    obtain ⟨y176, hy176⟩ : ∃ y_ : List Int, y_ = (([0, (-1)] : List Int)) := ⟨_, rfl⟩
    replace H : ((verditerref06_SameLists.f k t159 (([y170, y173, y176] : List (List Int)))).bind fun t182 => (if t182 = true then (if t167 = 0 then (if t166 = true then (if t169 = 0 then (some (t168 == 3)) else (some false)) else (some false)) else (some false)) else (some false))) = some r := by first | (rw [hy176]; with_reducible exact H) | (have H2_ := (Option.bind_some _ _).symm.trans H; rw [hy176]; with_reducible exact H2_) | (have H2_ := (Option.bind_some _ _).symm.trans H; with_reducible exact H2_) | with_reducible exact H | (rw [hy176]; exact H) | exact H
    have Ny176 := Aside0.mk hy176
    clear hy176
    obtain ⟨y179, hy179⟩ : ∃ y_ : List (List Int), y_ = (([y170, y173, y176] : List (List Int))) := ⟨_, rfl⟩
    replace H : ((verditerref06_SameLists.f k t159 y179).bind fun t182 => (if t182 = true then (if t167 = 0 then (if t166 = true then (if t169 = 0 then (some (t168 == 3)) else (some false)) else (some false)) else (some false)) else (some false))) = some r := by first | (rw [hy179]; with_reducible exact H) | (have H2_ := (Option.bind_some _ _).symm.trans H; rw [hy179]; with_reducible exact H2_) | (have H2_ := (Option.bind_some _ _).symm.trans H; with_reducible exact H2_) | with_reducible exact H | (rw [hy179]; exact H) | exact H
    have Ny179 := Aside0.mk hy179
    clear hy179
    replace H := Option.bind_eq_some_iff.mp H
    obtain ⟨t182, A70, H⟩ := H
    replace H : (if t182 = true then (if t167 = 0 then (if t166 = true then (if t169 = 0 then (some (t168 == 3)) else (some false)) else (some false)) else (some false)) else (some false)) = some r := H
    have A7 := Aside0.mk A70
    clear A70
    by_cases c8 : t182 = true
    · subst c8
      have H1 : (if t167 = 0 then (if t166 = true then (if t169 = 0 then (some (t168 == 3)) else (some false)) else (some false)) else (some false)) = some r := by rw [if_pos rfl] at H; exact H
      clear H
      have H := H1
      clear H1
      by_cases c9 : t167 = 0
      · rw [if_pos c9] at H
        have c9b0 : (t167 == 0) = true := beq_iff_eq.mpr c9
        have c9b1 : (t167 != 0) = false := bne_eq_false_iff_eq.mpr c9
        clear c9
        by_cases c10 : t166 = true
        · subst c10
          have H1 : (if t169 = 0 then (some (t168 == 3)) else (some false)) = some r := by rw [if_pos rfl] at H; exact H
          clear H
          have H := H1
          clear H1
          by_cases c11 : t169 = 0
          · rw [if_pos c11] at H
            have c11b0 : (t169 == 0) = true := beq_iff_eq.mpr c11
            have c11b1 : (t169 != 0) = false := bne_eq_false_iff_eq.mpr c11
            clear c11
            obtain rfl := Option.some.inj H
            go_enter Try.func25, Try.ntmps25
            go_wp2_with (first | ((with_reducible refine gate_callee (f := 52) rfl ?_); refine goesL_ (some 8) rfl rfl Try.func52 (by kernel_rfl) rfl #[] rfl (by (try simp only [List.map_toArray, List.map_cons, List.map_nil]); first | done | rfl | (simp only [List.length_drop, List.length_take]; rfl)) ?_; (with_reducible refine (verditerlaw06_example.calls  t156 _ A1.out).mono ?_); rintro e w12 ⟨v157, rfl, ho0, hb⟩; refine ⟨_, rfl, ?_⟩; have n0_ := Aside0.mk (Kd.N_lower (Kd.N_mono (ok' := fun k_ => True) ho0 (fun k_ hk_ => trivial)) (below_size (by repeat (first | (with_reducible first | exact HB.out | apply below_alloc | apply pw_below_drewN | apply below_drew1) | exact HB.out)))); have n1_ := Aside0.mk (below_step (by repeat (first | (with_reducible first | exact HB.out | apply below_alloc | apply pw_below_drewN | apply below_drew1) | exact HB.out)) hb); clear HB; have HO158 := n0_; have HB := n1_; clear n0_ n1_; (try clear hb); (try clear hb2); (try clear hk); (try clear hi); (try clear ho0); obtain ⟨Ao13, co13, eo13⟩ := Kd.N_slice HO158.out; subst eo13) | ((with_reducible refine gate_callee (f := 51) rfl ?_); refine goesL_ (some 9) rfl rfl Try.func51 (by kernel_rfl) rfl #[.int .i64 3, .slice Ao13 t156.length co13] rfl (by (try simp only [List.map_toArray, List.map_cons, List.map_nil]); first | done | rfl | (simp only [List.length_drop, List.length_take]; rfl)) ?_; (with_reducible refine (weigh_Marks.calls 3 _ _ t156 t159 t162 _ ?side1 ?side2 A2.out).mono ?_); (case side1 => repeat (first | exact (Kd.N_reads' HO158.out).2.2 | (with_reducible refine Kd.C_alloc ?_ _) | (with_reducible refine Kd.C_drewN ?_ _) | (with_reducible refine Kd.C_drew ?_))); (case side2 => exact (Kd.N_reads' HO158.out).2.1); rintro e w14 ⟨v160, rfl, ho0, hb⟩; refine ⟨_, rfl, ?_⟩; have n0_ := Aside0.mk (Kd.N_elder' (by (with_reducible repeat (first | apply Kd.N_alloc | apply Kd.N_drewN | apply Kd.N_drew)); exact HO158.out) (Kd.N_base ho0) hb); have n1_ := Aside0.mk (Kd.N_lower (Kd.N_mono (ok' := fun k_ => some k_ ≠ (.slice Ao13 t156.length co13 : Value).ownBlock) ho0 (fun k_ hk_ => (Kd.fresh' (Kd.N_lt (by (with_reducible repeat (first | apply Kd.N_alloc | apply Kd.N_drewN | apply Kd.N_drew)); exact HO158.out)) k_ hk_))) (below_size (by repeat (first | (with_reducible first | exact HB.out | apply below_alloc | apply pw_below_drewN | apply below_drew1) | exact HB.out)))); have n2_ := Aside0.mk (below_step (by repeat (first | (with_reducible first | exact HB.out | apply below_alloc | apply pw_below_drewN | apply below_drew1) | exact HB.out)) hb); clear HO158; clear HB; have HO158 := n0_; have HO161 := n1_; have HB := n2_; clear n0_ n1_ n2_; (try clear hb); (try clear hb2); (try clear hk); (try clear hi); (try clear ho0)) | ((with_reducible refine gate_callee (f := 52) rfl ?_); refine goesL_ (some 13) rfl rfl Try.func52 (by kernel_rfl) rfl #[] rfl (by (try simp only [List.map_toArray, List.map_cons, List.map_nil]); first | done | rfl | (simp only [List.length_drop, List.length_take]; rfl)) ?_; (with_reducible refine (verditerlaw06_example.calls  t163 _ A3.out).mono ?_); rintro e w15 ⟨v164, rfl, ho0, hb⟩; refine ⟨_, rfl, ?_⟩; have n0_ := Aside0.mk (Kd.N_elder' (by (with_reducible repeat (first | apply Kd.N_alloc | apply Kd.N_drewN | apply Kd.N_drew)); exact HO158.out) (Kd.N_base ho0) hb); have n1_ := Aside0.mk (Kd.N_elder' (by (with_reducible repeat (first | apply Kd.N_alloc | apply Kd.N_drewN | apply Kd.N_drew)); exact HO161.out) (Kd.N_base ho0) hb); have n2_ := Aside0.mk (Kd.N_lower (Kd.N_mono (ok' := fun k_ => some k_ ≠ (.slice Ao13 t156.length co13 : Value).ownBlock ∧ some k_ ≠ (v160 : Value).ownBlock) ho0 (fun k_ hk_ => ⟨(Kd.fresh' (Kd.N_lt (by (with_reducible repeat (first | apply Kd.N_alloc | apply Kd.N_drewN | apply Kd.N_drew)); exact HO158.out)) k_ hk_), (Kd.fresh' (Kd.N_lt (by (with_reducible repeat (first | apply Kd.N_alloc | apply Kd.N_drewN | apply Kd.N_drew)); exact HO161.out)) k_ hk_)⟩)) (below_size (by repeat (first | (with_reducible first | exact HB.out | apply below_alloc | apply pw_below_drewN | apply below_drew1) | exact HB.out)))); have n3_ := Aside0.mk (below_step (by repeat (first | (with_reducible first | exact HB.out | apply below_alloc | apply pw_below_drewN | apply below_drew1) | exact HB.out)) hb); clear HO158; clear HO161; clear HB; have HO158 := n0_; have HO161 := n1_; have HO165 := n2_; have HB := n3_; clear n0_ n1_ n2_ n3_; (try clear hb); (try clear hb2); (try clear hk); (try clear hi); (try clear ho0); obtain ⟨Ao16, co16, eo16⟩ := Kd.N_slice HO165.out; subst eo16) | ((with_reducible refine gate_callee (f := 44) rfl ?_); refine goesL_ (some 14) rfl rfl Try.func44 (by kernel_rfl) rfl #[.int .i64 3, .slice Ao16 t163.length co16] rfl (by (try simp only [List.map_toArray, List.map_cons, List.map_nil]); first | done | rfl | (simp only [List.length_drop, List.length_take]; rfl)) ?_; (with_reducible refine (weigh_Tells.calls 3 _ _ t163 true t167 _ ?side1 ?side2 A4.out).mono ?_); (case side1 => repeat (first | exact (Kd.N_reads' HO165.out).2.2 | (with_reducible refine Kd.C_alloc ?_ _) | (with_reducible refine Kd.C_drewN ?_ _) | (with_reducible refine Kd.C_drew ?_))); (case side2 => exact (Kd.N_reads' HO165.out).2.1); rintro e w17 ⟨rfl, hb⟩; refine ⟨_, rfl, ?_⟩; have n0_ := Aside0.mk (Kd.N_below (by (with_reducible repeat (first | apply Kd.N_alloc | apply Kd.N_drewN | apply Kd.N_drew)); exact HO158.out) hb); have n1_ := Aside0.mk (Kd.N_below (by (with_reducible repeat (first | apply Kd.N_alloc | apply Kd.N_drewN | apply Kd.N_drew)); exact HO161.out) hb); have n2_ := Aside0.mk (Kd.N_below (by (with_reducible repeat (first | apply Kd.N_alloc | apply Kd.N_drewN | apply Kd.N_drew)); exact HO165.out) hb); have n3_ := Aside0.mk (below_step (by repeat (first | (with_reducible first | exact HB.out | apply below_alloc | apply pw_below_drewN | apply below_drew1) | exact HB.out)) hb); clear HO158; clear HO161; clear HO165; clear HB; have HO158 := n0_; have HO161 := n1_; have HO165 := n2_; have HB := n3_; clear n0_ n1_ n2_ n3_; (try clear hb); (try clear hb2); (try clear hk); (try clear hi)) | ((with_reducible refine gate_callee (f := 23) rfl ?_); refine goesL_ (some 18) rfl rfl Try.func23 (by kernel_rfl) rfl #[.int .i64 2] rfl (by (try simp only [List.map_toArray, List.map_cons, List.map_nil]); first | done | rfl | (simp only [List.length_drop, List.length_take]; rfl)) ?_; (with_reducible refine (weigh_Most.calls k 2 t168 t169 _ A5.out).mono ?_); rintro e w18 ⟨rfl, hb⟩; refine ⟨_, rfl, ?_⟩; have n0_ := Aside0.mk (Kd.N_below (by (with_reducible repeat (first | apply Kd.N_alloc | apply Kd.N_drewN | apply Kd.N_drew)); exact HO158.out) hb); have n1_ := Aside0.mk (Kd.N_below (by (with_reducible repeat (first | apply Kd.N_alloc | apply Kd.N_drewN | apply Kd.N_drew)); exact HO161.out) hb); have n2_ := Aside0.mk (Kd.N_below (by (with_reducible repeat (first | apply Kd.N_alloc | apply Kd.N_drewN | apply Kd.N_drew)); exact HO165.out) hb); have n3_ := Aside0.mk (below_step (by repeat (first | (with_reducible first | exact HB.out | apply below_alloc | apply pw_below_drewN | apply below_drew1) | exact HB.out)) hb); clear HO158; clear HO161; clear HO165; clear HB; have HO158 := n0_; have HO161 := n1_; have HO165 := n2_; have HB := n3_; clear n0_ n1_ n2_ n3_; (try clear hb); (try clear hb2); (try clear hk); (try clear hi)) | ((with_reducible refine gate_dst (N := 25) rfl ?_); (try (refine gate_guard (by rfl) ?_; dsimp only)); refine Kd.R_lit (Kd.int .i64) _ 3 ?hg (N := 25) ?hd (xs := ([1, 0] : List Int)) (inner := [.int .i64 1, .int .i64 0]) (ok := fun _ => True) (okp := fun _ => True) ?hr ?hp (fun _ hk => hk) trivial (Below.refl _ _) (Nat.le_refl _) (by simp) ?_; (case hd => rfl); (case hg => rfl); (case hr => first | (go_simp; done) | (go_simp; rfl)); (case hp => exact (Reps.one (show Kd.M (Kd.int .i64) _ _ _ 1 [.int .i64 1] from rfl) (Reps.one (show Kd.M (Kd.int .i64) _ _ _ 0 [.int .i64 0] from rfl) (Reps.none _ _)))); intro v171 w19 ho20 hb hg_ hnew_; clear hg_ hnew_; (first | rw [← Ny170.out] at ho20 | (simp only [Int.reduceToNat] at ho20; rw [← Ny170.out] at ho20)); have n0_ := Aside0.mk (Kd.N_elder' (by (with_reducible repeat (first | apply Kd.N_alloc | apply Kd.N_drewN | apply Kd.N_drew)); exact HO158.out) (Kd.R_base ho20) hb); have n1_ := Aside0.mk (Kd.N_elder' (by (with_reducible repeat (first | apply Kd.N_alloc | apply Kd.N_drewN | apply Kd.N_drew)); exact HO161.out) (Kd.R_base ho20) hb); have n2_ := Aside0.mk (Kd.N_elder' (by (with_reducible repeat (first | apply Kd.N_alloc | apply Kd.N_drewN | apply Kd.N_drew)); exact HO165.out) (Kd.R_base ho20) hb); have n3_ := Aside0.mk (Kd.R_lower ho20 (below_size (by repeat (first | (with_reducible first | exact HB.out | apply below_alloc | apply pw_below_drewN | apply below_drew1) | exact HB.out)))); have n4_ := Aside0.mk (below_step (by repeat (first | (with_reducible first | exact HB.out | apply below_alloc | apply pw_below_drewN | apply below_drew1) | exact HB.out)) hb); clear HO158; clear HO161; clear HO165; clear HB; have HO158 := n0_; have HO161 := n1_; have HO165 := n2_; have HO172 := n3_; have HB := n4_; clear n0_ n1_ n2_ n3_ n4_; clear hb ho20) | ((with_reducible refine gate_dst (N := 26) rfl ?_); (try (refine gate_guard (by rfl) ?_; dsimp only)); refine Kd.R_lit (Kd.int .i64) _ 3 ?hg (N := 26) ?hd (xs := ([(-1), 1] : List Int)) (inner := [.int .i64 (-1), .int .i64 1]) (ok := fun _ => True) (okp := fun _ => True) ?hr ?hp (fun _ hk => hk) trivial (Below.refl _ _) (Nat.le_refl _) (by simp) ?_; (case hd => rfl); (case hg => rfl); (case hr => first | (go_simp; done) | (go_simp; rfl)); (case hp => exact (Reps.one (show Kd.M (Kd.int .i64) _ _ _ (-1) [.int .i64 (-1)] from rfl) (Reps.one (show Kd.M (Kd.int .i64) _ _ _ 1 [.int .i64 1] from rfl) (Reps.none _ _)))); intro v174 w21 ho22 hb hg_ hnew_; clear hg_ hnew_; (first | rw [← Ny173.out] at ho22 | (simp only [Int.reduceToNat] at ho22; rw [← Ny173.out] at ho22)); have n0_ := Aside0.mk (Kd.N_elder' (by (with_reducible repeat (first | apply Kd.N_alloc | apply Kd.N_drewN | apply Kd.N_drew)); exact HO158.out) (Kd.R_base ho22) hb); have n1_ := Aside0.mk (Kd.N_elder' (by (with_reducible repeat (first | apply Kd.N_alloc | apply Kd.N_drewN | apply Kd.N_drew)); exact HO161.out) (Kd.R_base ho22) hb); have n2_ := Aside0.mk (Kd.N_elder' (by (with_reducible repeat (first | apply Kd.N_alloc | apply Kd.N_drewN | apply Kd.N_drew)); exact HO165.out) (Kd.R_base ho22) hb); have n3_ := Aside0.mk (Kd.R_elder' (by (with_reducible repeat (first | apply Kd.R_alloc | apply Kd.R_drewN | apply Kd.R_drew)); exact HO172.out) (Kd.R_base ho22) hb); have n4_ := Aside0.mk (Kd.R_lower (Kd.R_new' ho22 (Kd.R_lt (by (with_reducible repeat (first | apply Kd.R_alloc | apply Kd.R_drewN | apply Kd.R_drew)); exact HO172.out))) (below_size (by repeat (first | (with_reducible first | exact HB.out | apply below_alloc | apply pw_below_drewN | apply below_drew1) | exact HB.out)))); have n5_ := Aside0.mk (below_step (by repeat (first | (with_reducible first | exact HB.out | apply below_alloc | apply pw_below_drewN | apply below_drew1) | exact HB.out)) hb); clear HO158; clear HO161; clear HO165; clear HO172; clear HB; have HO158 := n0_; have HO161 := n1_; have HO165 := n2_; have HO172 := n3_; have HO175 := n4_; have HB := n5_; clear n0_ n1_ n2_ n3_ n4_ n5_; clear hb ho22) | ((with_reducible refine gate_dst (N := 27) rfl ?_); (try (refine gate_guard (by rfl) ?_; dsimp only)); refine Kd.R_lit (Kd.int .i64) _ 3 ?hg (N := 27) ?hd (xs := ([0, (-1)] : List Int)) (inner := [.int .i64 0, .int .i64 (-1)]) (ok := fun _ => True) (okp := fun _ => True) ?hr ?hp (fun _ hk => hk) trivial (Below.refl _ _) (Nat.le_refl _) (by simp) ?_; (case hd => rfl); (case hg => rfl); (case hr => first | (go_simp; done) | (go_simp; rfl)); (case hp => exact (Reps.one (show Kd.M (Kd.int .i64) _ _ _ 0 [.int .i64 0] from rfl) (Reps.one (show Kd.M (Kd.int .i64) _ _ _ (-1) [.int .i64 (-1)] from rfl) (Reps.none _ _)))); intro v177 w23 ho24 hb hg_ hnew_; clear hg_ hnew_; (first | rw [← Ny176.out] at ho24 | (simp only [Int.reduceToNat] at ho24; rw [← Ny176.out] at ho24)); have n0_ := Aside0.mk (Kd.N_elder' (by (with_reducible repeat (first | apply Kd.N_alloc | apply Kd.N_drewN | apply Kd.N_drew)); exact HO158.out) (Kd.R_base ho24) hb); have n1_ := Aside0.mk (Kd.N_elder' (by (with_reducible repeat (first | apply Kd.N_alloc | apply Kd.N_drewN | apply Kd.N_drew)); exact HO161.out) (Kd.R_base ho24) hb); have n2_ := Aside0.mk (Kd.N_elder' (by (with_reducible repeat (first | apply Kd.N_alloc | apply Kd.N_drewN | apply Kd.N_drew)); exact HO165.out) (Kd.R_base ho24) hb); have n3_ := Aside0.mk (Kd.R_elder' (by (with_reducible repeat (first | apply Kd.R_alloc | apply Kd.R_drewN | apply Kd.R_drew)); exact HO172.out) (Kd.R_base ho24) hb); have n4_ := Aside0.mk (Kd.R_elder' (by (with_reducible repeat (first | apply Kd.R_alloc | apply Kd.R_drewN | apply Kd.R_drew)); exact HO175.out) (Kd.R_base ho24) hb); have n5_ := Aside0.mk (Kd.R_lower (Kd.R_new' (Kd.R_new' ho24 (Kd.R_lt (by (with_reducible repeat (first | apply Kd.R_alloc | apply Kd.R_drewN | apply Kd.R_drew)); exact HO172.out))) (Kd.R_lt (by (with_reducible repeat (first | apply Kd.R_alloc | apply Kd.R_drewN | apply Kd.R_drew)); exact HO175.out))) (below_size (by repeat (first | (with_reducible first | exact HB.out | apply below_alloc | apply pw_below_drewN | apply below_drew1) | exact HB.out)))); have n6_ := Aside0.mk (below_step (by repeat (first | (with_reducible first | exact HB.out | apply below_alloc | apply pw_below_drewN | apply below_drew1) | exact HB.out)) hb); clear HO158; clear HO161; clear HO165; clear HO172; clear HO175; clear HB; have HO158 := n0_; have HO161 := n1_; have HO165 := n2_; have HO172 := n3_; have HO175 := n4_; have HO178 := n5_; have HB := n6_; clear n0_ n1_ n2_ n3_ n4_ n5_ n6_; clear hb ho24; obtain ⟨Ao25, co25, eo25⟩ := Kd.R_slice HO172.out; subst eo25; obtain ⟨Ao26, co26, eo26⟩ := Kd.R_slice HO175.out; subst eo26; obtain ⟨Ao27, co27, eo27⟩ := Kd.R_slice HO178.out; subst eo27) | ((with_reducible refine gate_dst (N := 28) rfl ?_); (try (refine gate_guard (by rfl) ?_; dsimp only)); refine Kd.N_lit (Kd.slice 3 (Kd.int .i64)) _ 43 ?hg (N' := 28) ?hd (xs := ([y170, y173, y176] : List (List Int))) (inner := [.slice Ao25 y170.length co25, .slice Ao26 y173.length co26, .slice Ao27 y176.length co27]) (ok := (fun k_ => some k_ ≠ (.slice Ao13 t156.length co13 : Value).ownBlock ∧ some k_ ≠ (v160 : Value).ownBlock ∧ some k_ ≠ (.slice Ao16 t163.length co16 : Value).ownBlock)) (okp := (fun k_ => some k_ ≠ (.slice Ao13 t156.length co13 : Value).ownBlock ∧ some k_ ≠ (v160 : Value).ownBlock ∧ some k_ ≠ (.slice Ao16 t163.length co16 : Value).ownBlock)) ?hr ?hp (fun _ hk => hk) ((show ∀ k_, w23.heap.size ≤ k_ → (fun k_ => some k_ ≠ (.slice Ao13 t156.length co13 : Value).ownBlock ∧ some k_ ≠ (v160 : Value).ownBlock ∧ some k_ ≠ (.slice Ao16 t163.length co16 : Value).ownBlock) k_ from fun k_ hk => ⟨Kd.fresh' (Kd.N_lt (by (with_reducible repeat (first | apply Kd.N_alloc | apply Kd.N_drewN | apply Kd.N_drew)); exact HO158.out)) k_ hk, Kd.fresh' (Kd.N_lt (by (with_reducible repeat (first | apply Kd.N_alloc | apply Kd.N_drewN | apply Kd.N_drew)); exact HO161.out)) k_ hk, Kd.fresh' (Kd.N_lt (by (with_reducible repeat (first | apply Kd.N_alloc | apply Kd.N_drewN | apply Kd.N_drew)); exact HO165.out)) k_ hk⟩) _ (Nat.le_refl _)) (Below.refl _ _) (Nat.le_refl _) (by simp) ?_; (case hd => rfl); (case hg => rfl); (case hr => first | (go_simp; done) | (go_simp; rfl)); (case hp => exact (Reps.one (show Kd.FK (Kd.slice 3 (Kd.int .i64)) _ _ y170 [.slice Ao25 y170.length co25] from (Kd.FK_slice_mk (Kd.R_reads' (Kd.R_mono (ok' := (fun k_ => some k_ ≠ (.slice Ao13 t156.length co13 : Value).ownBlock ∧ some k_ ≠ (v160 : Value).ownBlock ∧ some k_ ≠ (.slice Ao16 t163.length co16 : Value).ownBlock)) (Kd.R_apart' (Kd.R_apart' (Kd.R_apart' (HO172.out) (Kd.N_typed HO158.out) (by decide)) (Kd.N_typed HO161.out) (by decide)) (Kd.N_typed HO165.out) (by decide)) (fun k_ hk => ⟨hk.1.1.2, ⟨hk.1.2, hk.2⟩⟩))).2.1 (Kd.R_F (Kd.R_mono (ok' := (fun k_ => some k_ ≠ (.slice Ao13 t156.length co13 : Value).ownBlock ∧ some k_ ≠ (v160 : Value).ownBlock ∧ some k_ ≠ (.slice Ao16 t163.length co16 : Value).ownBlock)) (Kd.R_apart' (Kd.R_apart' (Kd.R_apart' (HO172.out) (Kd.N_typed HO158.out) (by decide)) (Kd.N_typed HO161.out) (by decide)) (Kd.N_typed HO165.out) (by decide)) (fun k_ hk => ⟨hk.1.1.2, ⟨hk.1.2, hk.2⟩⟩))))) (Reps.one (show Kd.FK (Kd.slice 3 (Kd.int .i64)) _ _ y173 [.slice Ao26 y173.length co26] from (Kd.FK_slice_mk (Kd.R_reads' (Kd.R_mono (ok' := (fun k_ => some k_ ≠ (.slice Ao13 t156.length co13 : Value).ownBlock ∧ some k_ ≠ (v160 : Value).ownBlock ∧ some k_ ≠ (.slice Ao16 t163.length co16 : Value).ownBlock)) (Kd.R_apart' (Kd.R_apart' (Kd.R_apart' (HO175.out) (Kd.N_typed HO158.out) (by decide)) (Kd.N_typed HO161.out) (by decide)) (Kd.N_typed HO165.out) (by decide)) (fun k_ hk => ⟨hk.1.1.2, ⟨hk.1.2, hk.2⟩⟩))).2.1 (Kd.R_F (Kd.R_mono (ok' := (fun k_ => some k_ ≠ (.slice Ao13 t156.length co13 : Value).ownBlock ∧ some k_ ≠ (v160 : Value).ownBlock ∧ some k_ ≠ (.slice Ao16 t163.length co16 : Value).ownBlock)) (Kd.R_apart' (Kd.R_apart' (Kd.R_apart' (HO175.out) (Kd.N_typed HO158.out) (by decide)) (Kd.N_typed HO161.out) (by decide)) (Kd.N_typed HO165.out) (by decide)) (fun k_ hk => ⟨hk.1.1.2, ⟨hk.1.2, hk.2⟩⟩))))) (Reps.one (show Kd.FK (Kd.slice 3 (Kd.int .i64)) _ _ y176 [.slice Ao27 y176.length co27] from (Kd.FK_slice_mk (Kd.R_reads' (Kd.R_mono (ok' := (fun k_ => some k_ ≠ (.slice Ao13 t156.length co13 : Value).ownBlock ∧ some k_ ≠ (v160 : Value).ownBlock ∧ some k_ ≠ (.slice Ao16 t163.length co16 : Value).ownBlock)) (Kd.R_apart' (Kd.R_apart' (Kd.R_apart' (HO178.out) (Kd.N_typed HO158.out) (by decide)) (Kd.N_typed HO161.out) (by decide)) (Kd.N_typed HO165.out) (by decide)) (fun k_ hk => ⟨hk.1.1.2, ⟨hk.1.2, hk.2⟩⟩))).2.1 (Kd.R_F (Kd.R_mono (ok' := (fun k_ => some k_ ≠ (.slice Ao13 t156.length co13 : Value).ownBlock ∧ some k_ ≠ (v160 : Value).ownBlock ∧ some k_ ≠ (.slice Ao16 t163.length co16 : Value).ownBlock)) (Kd.R_apart' (Kd.R_apart' (Kd.R_apart' (HO178.out) (Kd.N_typed HO158.out) (by decide)) (Kd.N_typed HO161.out) (by decide)) (Kd.N_typed HO165.out) (by decide)) (fun k_ hk => ⟨hk.1.1.2, ⟨hk.1.2, hk.2⟩⟩))))) (Reps.none _ _))))); intro v180 w28 ho29 hb hg_ hnew_; clear hg_ hnew_; (first | rw [← Ny179.out] at ho29 | (simp only [Int.reduceToNat] at ho29; rw [← Ny179.out] at ho29)); have n0_ := Aside0.mk (Kd.N_elder' (by (with_reducible repeat (first | apply Kd.N_alloc | apply Kd.N_drewN | apply Kd.N_drew)); exact HO158.out) (Kd.N_base ho29) hb); have n1_ := Aside0.mk (Kd.N_elder' (by (with_reducible repeat (first | apply Kd.N_alloc | apply Kd.N_drewN | apply Kd.N_drew)); exact HO161.out) (Kd.N_base ho29) hb); have n2_ := Aside0.mk (Kd.N_elder' (by (with_reducible repeat (first | apply Kd.N_alloc | apply Kd.N_drewN | apply Kd.N_drew)); exact HO165.out) (Kd.N_base ho29) hb); have n3_ := Aside0.mk (Kd.N_lower ho29 (below_size (by repeat (first | (with_reducible first | exact HB.out | apply below_alloc | apply pw_below_drewN | apply below_drew1) | exact HB.out)))); have n4_ := Aside0.mk (below_step (by repeat (first | (with_reducible first | exact HB.out | apply below_alloc | apply pw_below_drewN | apply below_drew1) | exact HB.out)) hb); clear HO158; clear HO161; clear HO165; clear HB; clear HO172; clear HO175; clear HO178; have HO158 := n0_; have HO161 := n1_; have HO165 := n2_; have HO181 := n3_; have HB := n4_; clear n0_ n1_ n2_ n3_ n4_; clear hb ho29; obtain ⟨Ao30, co30, eo30⟩ := Kd.N_slice HO161.out; subst eo30; obtain ⟨Ao31, co31, eo31⟩ := Kd.N_slice HO181.out; subst eo31) | (go_at_call 53; (with_reducible refine (verditerref06_SameLists.calls k _ _ t159 _ _ y179 true _ ?side1 ?side2 ?side3 ?side4 A7.out).mono ?_); (case side1 => repeat (first | exact (Kd.N_reads' HO161.out).2.2 | (with_reducible refine Kd.C_alloc ?_ _) | (with_reducible refine Kd.C_drewN ?_ _) | (with_reducible refine Kd.C_drew ?_))); (case side2 => exact (Kd.N_reads' HO161.out).2.1); (case side3 => repeat (first | exact (Kd.N_reads' HO181.out).2.2 | (with_reducible refine Kd.C_alloc ?_ _) | (with_reducible refine Kd.C_drewN ?_ _) | (with_reducible refine Kd.C_drew ?_))); (case side4 => exact (Kd.N_reads' HO181.out).2.1); rintro e w' ⟨rfl, ⟨nd, rfl⟩⟩))
            go_ret
            exact ⟨by first | rfl | (simp [errW_none, errW_some] <;> rfl) | (simp [*, errW_none, errW_some] <;> rfl), by repeat (first | (with_reducible first | exact HB.out | apply below_alloc | apply pw_below_drewN | apply below_drew1) | exact HB.out)⟩
          · rw [if_neg c11] at H
            have c11b0 : (t169 == 0) = false := beq_eq_false_iff_ne.mpr c11
            have c11b1 : (t169 != 0) = true := bne_iff_ne.mpr c11
            exact absurd ((Option.some.inj H).trans hT) (by decide)
        · replace c10 := Bool.eq_false_iff.mpr c10
          subst c10
          have H1 : (some false) = some r := by rw [if_neg (show ¬ (false = true) by decide)] at H; exact H
          clear H
          have H := H1
          clear H1
          exact absurd ((Option.some.inj H).trans hT) (by decide)
      · rw [if_neg c9] at H
        have c9b0 : (t167 == 0) = false := beq_eq_false_iff_ne.mpr c9
        have c9b1 : (t167 != 0) = true := bne_iff_ne.mpr c9
        exact absurd ((Option.some.inj H).trans hT) (by decide)
    · replace c8 := Bool.eq_false_iff.mpr c8
      subst c8
      have H1 : (some false) = some r := by rw [if_neg (show ¬ (false = true) by decide)] at H; exact H
      clear H
      have H := H1
      clear H1
      exact absurd ((Option.some.inj H).trans hT) (by decide)
  · rw [if_neg c6] at H
    have c6b0 : (t162 == 0) = false := beq_eq_false_iff_ne.mpr c6
    have c6b1 : (t162 != 0) = true := bne_iff_ne.mpr c6
    exact absurd ((Option.some.inj H).trans hT) (by decide)

end Go.Proofs.Ytdbeochifofdoaa.X
end

section
/-! known, with more rounds. -/
namespace Go.Proofs.Ytdbeochifofdoaa.X
open Go.RowKit Go.Proofs.YtdbeochifofdoaaW.PrintWords Go.Proofs.YtdbeochifofdoaaW.PrintLast
theorem known_at : ∀ k, verditerlaw06_known.f (20 + k) = some true
  | 0 => verditerlaw06_known.is_true
  | k + 1 => verditerlaw06_known.mono (20 + k) _ (known_at k)
theorem known_k {k : Nat} (h : 20 ≤ k) : verditerlaw06_known.f k = some true := by
  have := known_at (k - 20)
  rwa [show 20 + (k - 20) = k by omega] at this
end Go.Proofs.Ytdbeochifofdoaa.X
end

section
/-! The law WeighMirrors. -/
namespace Go.Proofs.Ytdbeochifofdoaa.X
open Go.RowKit Go.Proofs.YtdbeochifofdoaaW.PrintWords Go.Proofs.YtdbeochifofdoaaW.PrintLast Go.Proofs.YtdbeochifofdoaaW.PrintMore
set_option linter.unusedVariables false
set_option linter.unusedSimpArgs false
/-- The left sides of a plan of one's own lie in rows of one's own. -/
def LeftOk (W : World) (base g : Nat) (xs : List S53) (cells : Array Value) : Prop := W.heap[g]? = some (.cells cells 53 (0, 0)) ∧
  ∀ i, i < xs.length → ∃ A c, cells[i * 2]? = some (.slice A (xs.getD i z53).f0.length c) ∧ (0 < (xs.getD i z53).f0.length → ∃ b cs, A = some ⟨b, 0, none⟩ ∧ base ≤ b ∧ W.heap[b]? = some (.cells cs 3 (0, 0)) ∧ (xs.getD i z53).f0.length ≤ cs.size)
theorem int_row {W : World} {base : Nat} {ok : Nat → Prop} {v : Value} {xs : List Int} (h : Kd.R (Kd.int .i64) 3 W base ok v xs) : ∃ A c, v = .slice A xs.length c ∧ (0 < xs.length → ∃ b cs, A = some ⟨b, 0, none⟩ ∧ base ≤ b ∧ W.heap[b]? = some (.cells cs 3 (0, 0)) ∧ xs.length ≤ cs.size) := by
  obtain ⟨A, c, rfl⟩ := Kd.R_slice h
  refine ⟨A, c, rfl, fun hp => ?_⟩
  obtain ⟨h0, inner, ⟨hl, ho2⟩, hr⟩ := h
  rcases ho2 with ⟨hv, hi⟩ | ⟨g', cap', cur, hv, hg, hb, hn, hm, hc, ht⟩
  · injection hv with hv1 hv2 hv3
    omega
  injection hv with hv1 hv2 hv3
  subst hv1 hv3
  rw [show (Kd.int .i64).sz = 1 from rfl] at hc
  have e : (Array.mk xs).size = xs.length := by simp
  exact ⟨g', cur, rfl, hg, hb, by omega⟩
theorem R_lefts {W : World} {base g cap : Nat} {ok : Nat → Prop} {xs : List S53} (h : Kd.R k53 53 W base ok (.slice (some ⟨g, 0, none⟩) xs.length cap) xs) : ∃ cells, base ≤ g ∧ LeftOk W base g xs cells := by
  obtain ⟨h0, inner, ho, hr⟩ := h
  obtain ⟨hl, ho⟩ := ho
  rcases ho with ⟨hv, _⟩ | ⟨g', cap', cur, hv, hg, hb, hn, hm, hc, ht⟩
  · cases hv
  injection hv with hv1 hv2 hv3
  injection hv1 with hv1
  injection hv1 with hv1 _ _
  subst hv1 hv3
  have hsz : k53.sz = 2 := rfl
  rw [hsz] at hl hc ht hr
  refine ⟨cur, hg, hb, fun k hk => ?_⟩
  have hM := hr.2 k _ (List.getElem?_eq_getElem hk)
  obtain ⟨v0, v1, hcs, hR0, hR1⟩ := k53_openM hM
  have hil : inner.length = xs.length * 2 := hr.1
  have i0 : inner[k * 2]? = some v0 := by
    have := congrArg (fun l => l[0]?) hcs
    simpa [List.getElem?_take, List.getElem?_drop] using this
  have c0 : cur[k * 2]? = some v0 := by
    rw [← ht, List.getElem?_take, if_pos (by omega), Array.getElem?_toList] at i0
    exact i0
  have e0 : xs.getD k z53 = xs[k] := by simp [List.getD_eq_getElem?_getD, List.getElem?_eq_getElem hk]
  rw [e0]
  obtain ⟨A, c, rfl, hx⟩ := int_row hR0
  exact ⟨A, c, c0, hx⟩
theorem LeftOk.put {W : World} {base g : Nat} {xs : List S53} {cells : Array Value} (h : LeftOk W base g xs cells) {b j : Nat} {cs : Array Value} (hb : W.heap[b]? = some (.cells cs 3 (0, 0))) (v : Value) : LeftOk (W.setCell ⟨b, j, none⟩ v) base g xs cells := by
  have hne := blk_ne h.1 hb (by decide)
  refine ⟨(Below.heap_setCell W ⟨b, j, none⟩ v g hne).trans h.1, fun i hi => ?_⟩
  obtain ⟨A, c, h1, h2⟩ := h.2 i hi
  refine ⟨A, c, h1, fun hp => ?_⟩
  obtain ⟨b', cs', rfl, h3, h4, h5⟩ := h2 hp
  by_cases he : b' = b
  · subst he
    obtain rfl : cs = cs' := by rw [hb] at h4; injection h4 with h4; injection h4
    exact ⟨b', _, rfl, h3, blk_set hb j v, by rw [Array.size_setIfInBounds]; exact h5⟩
  · exact ⟨b', cs', rfl, h3, (Below.heap_setCell W ⟨b, j, none⟩ v b' he).trans h4, h5⟩
/-- What weighMirrors answers: true, for every list that fits into memory. -/
def verditerlaw06_weighMirrors.f (k : Nat) (a0 : Int) (l : List S53) (b0 : Int) : Option Bool := if l.length < 9223372036854775807 then some true else none
theorem pair_out {α : Type} (q : Int) (x y : α) : (if q = 0 then (x, 0) else (y, q)) = (if q = 0 then x else y, q) := by by_cases h : q = 0 <;> simp [h]
set_option maxHeartbeats 4000000 in
set_option maxRecDepth 100000 in
theorem verditerlaw06_weighMirrors.calls (k : Nat) (a0 : Int) (A1 : Option Addr) (c1 : Nat) (l1 : List S53) (a2 : Int) (r : Bool) (w : World) (hr1 : Kd.C k53 w A1 l1.length l1) (hc1 : l1.length ≤ c1) (h : verditerlaw06_weighMirrors.f k a0 l1 a2 = some r) :
    Calls Try.prog 41 #[.int .i64 a0, .slice A1 l1.length c1, .int .i64 a2] w fun e w' => e = .returned (.bool r) ∧ Below w.heap.size w w' := by
  unfold verditerlaw06_weighMirrors.f at h
  by_cases hll : l1.length < 9223372036854775807
  rotate_left
  · rw [if_neg hll] at h; cases h
  rw [if_pos hll] at h
  obtain rfl := Option.some.inj h
  clear h
  have HR := Aside0.mk hr1
  have HC := Aside0.mk hc1
  have HLL := Aside0.mk hll
  clear hr1 hc1 hll
  have HK := Aside0.mk (known_k (k := 2999) (by omega))
  have HLong := Aside0.mk (long_f l1 HLL.out 2999 (by omega))
  go_enter Try.func41, Try.ntmps41
  go_wp2_with fail
  refine (verditerlaw06_Long.calls 2999 A1 c1 l1 _ _ HR.out HC.out HLong.out).mono ?_
  rintro e w1 ⟨rfl, hb⟩
  have HB1 := Aside0.mk (Drawn0.below hb)
  clear hb
  cases hlb : longB l1 with
  | true =>
    rw [hlb] at *
    go_wp2_with fail
    refine (verditerlaw06_known.calls 2999 true _ HK.out).mono ?_
    rintro e w2 ⟨rfl, hb⟩
    have HB2 := Aside0.mk (HB1.out.trans (hb.mono HB1.out.size))
    clear hb
    go_wp2
    go_ret
    exact ⟨rfl, HB2.out⟩
  | false =>
    obtain ⟨hl50, hs50⟩ := long_not hlb
    have HL := Aside0.mk hl50
    have HS := Aside0.mk hs50
    have HCopy := Aside0.mk (refCopy_f l1 hl50 hs50 2999 (by omega))
    have HMir := Aside0.mk (refMirror_f a0 l1 hl50 hs50 a2 2999 (by omega))
    have HWit := Aside0.mk (refWithout_f a0 l1 hl50 hs50 a2 2999 (by omega))
    rw [hlb] at *
    clear hl50 hs50
    go_wp2_with fail
    refine (verditerref06_Copy.calls 2999 A1 c1 l1 _ _ (Kd.C_below HR.out HB1.out) HC.out HCopy.out).mono ?_
    rintro e w2 ⟨vo, rfl, hO, hb⟩
    obtain ⟨Ao, co, rfl⟩ := Kd.S_slice hO
    have hR2 := Kd.S_R hO
    obtain ⟨_, hco, hOC⟩ := Kd.R_reads' hR2
    have HO := Aside0.mk hOC
    have HOc := Aside0.mk hco
    have HB2 := Aside0.mk (HB1.out.trans (hb.mono HB1.out.size))
    clear hO hb hR2 hOC hco HB1
    obtain ⟨q, hq⟩ : ∃ q, q = nErr a0 l1 a2 := ⟨_, rfl⟩
    obtain ⟨mL, hmL⟩ : ∃ mL, mL = if q = 0 then turnP l1 a2.toNat else [] := ⟨_, rfl⟩
    obtain ⟨dL, hdL⟩ : ∃ dL, dL = if q = 0 then l1.eraseIdx a2.toNat else [] := ⟨_, rfl⟩
    have hM1 := HMir.out
    have hW1 := HWit.out
    have hM2 : weigh_Mirror.f a0 l1 a2 = some (if q = 0 then (turnP l1 a2.toNat, 0) else ([], q)) := by rw [hq]; rfl
    have hW2 : weigh_Without.f a0 l1 a2 = some (if q = 0 then (l1.eraseIdx a2.toNat, 0) else ([], q)) := by rw [hq]; rfl
    rw [← hq, pair_out, ← hmL] at hM1
    rw [← hq, pair_out, ← hdL] at hW1
    rw [pair_out, ← hmL] at hM2
    rw [pair_out, ← hdL] at hW2
    have hmb : mL.length ≤ 50 ∧ ∀ y, y ∈ mL → y.f0.length ≤ 50 ∧ y.f1.length ≤ 50 := by
      rw [hmL]
      split
      · refine ⟨by rw [turnP, List.length_set]; exact HL.out, fun y hy => ?_⟩
        rcases List.mem_or_eq_of_mem_set hy with h | rfl
        · exact HS.out y h
        · by_cases hn : a2.toNat < l1.length
          · have := HS.out _ (mem_getD z53 l1 a2.toNat hn)
            exact ⟨this.2, this.1⟩
          · rw [turnP, List.set_eq_of_length_le (by omega)] at hy
            exact HS.out _ hy
      · exact ⟨by simp, fun y hy => by simp at hy⟩
    have hdb : dL.length ≤ 50 ∧ ∀ y, y ∈ dL → y.f0.length ≤ 50 ∧ y.f1.length ≤ 50 := by
      rw [hdL]
      split
      · exact ⟨Nat.le_trans (List.length_eraseIdx_le _ _) HL.out, fun y hy => HS.out y (List.mem_of_mem_eraseIdx hy)⟩
      · exact ⟨by simp, fun y hy => by simp at hy⟩
    have HsM := Aside0.mk (sameP_f mL hmb.1 hmb.2 2999 (by omega))
    have HsD := Aside0.mk (sameP_f dL hdb.1 hdb.2 2999 (by omega))
    have HsO := Aside0.mk (sameP_f l1 HL.out HS.out 2999 (by omega))
    have HmB := Aside0.mk hmb
    have HM1 := Aside0.mk hM1
    have HW1 := Aside0.mk hW1
    have HM2 := Aside0.mk hM2
    have HW2 := Aside0.mk hW2
    have HQ := Aside0.mk hq
    have HML := Aside0.mk hmL
    have HDL := Aside0.mk hdL
    have qq : (q != q) = false := by simp
    clear hmb hdb hM1 hW1 hM2 hW2 hq hmL hdL HMir HWit HCopy HLong
    go_wp2_with fail
    refine (verditerref06_Mirror.calls 2999 a0 A1 c1 l1 a2 mL q _ (Kd.C_below HR.out HB2.out) HC.out HM1.out).mono ?_
    rintro e w3 ⟨v, rfl, hN, hb⟩
    obtain ⟨Ab, cb, rfl⟩ := Kd.N_slice hN
    obtain ⟨_, hcb, hbC⟩ := Kd.N_reads' hN
    have HO3 := Aside0.mk (Kd.C_below HO.out hb)
    have HB3 := Aside0.mk (HB2.out.trans (hb.mono HB2.out.size))
    have Hb3 := Aside0.mk hbC
    have Hcb := Aside0.mk hcb
    clear hN hb hbC hcb HO HB2
    go_wp2_with fail
    refine (verditerref06_Without.calls 2999 a0 A1 c1 l1 a2 dL q _ (Kd.C_below HR.out HB3.out) HC.out HW1.out).mono ?_
    rintro e w4 ⟨v, rfl, hN, hb⟩
    obtain ⟨Ad, cd, rfl⟩ := Kd.N_slice hN
    obtain ⟨_, hcd, hdC⟩ := Kd.N_reads' hN
    have HO4 := Aside0.mk (Kd.C_below HO3.out hb)
    have HB4 := Aside0.mk (HB3.out.trans (hb.mono HB3.out.size))
    have Hb4 := Aside0.mk (Kd.C_below Hb3.out hb)
    have Hd4 := Aside0.mk hdC
    have Hcd := Aside0.mk hcd
    clear hN hb hdC hcd HO3 HB3 Hb3
    go_wp2_with fail
    refine (weigh_Mirror.calls a0 Ao co l1 a2 mL q _ HO4.out HOc.out HM2.out).mono ?_
    rintro e w5 ⟨v, rfl, hN, hb⟩
    obtain ⟨Aa, ca, rfl⟩ := Kd.R_slice hN
    have HO5 := Aside0.mk (Kd.C_below HO4.out hb)
    have HB5 := Aside0.mk (HB4.out.trans (hb.mono HB4.out.size))
    have Hb5 := Aside0.mk (Kd.C_below Hb4.out hb)
    have Hd5 := Aside0.mk (Kd.C_below Hd4.out hb)
    have H45 := Aside0.mk hb
    have Ha5 := Aside0.mk hN
    clear hN hb Hb4 Hd4
    go_wp2_with fail
    refine (weigh_Without.calls a0 Ao co l1 a2 dL q _ HO5.out HOc.out HW2.out).mono ?_
    rintro e w6 ⟨v, rfl, hN, hb⟩
    obtain ⟨Ac, cc, rfl⟩ := Kd.R_slice hN
    obtain ⟨_, hcc, hcC⟩ := Kd.R_reads' hN
    have HB6 := Aside0.mk (HB5.out.trans (hb.mono HB5.out.size))
    have Hb6 := Aside0.mk (Kd.C_below Hb5.out hb)
    have Hd6 := Aside0.mk (Kd.C_below Hd5.out hb)
    have H46 := Aside0.mk (H45.out.trans (hb.mono H45.out.size))
    have Ha6 := Aside0.mk (Kd.R_below Ha5.out hb)
    have Hc6 := Aside0.mk hcC
    have Hcc := Aside0.mk hcc
    clear hN hb hcC hcc HB5 Hb5 Hd5 H45 Ha5 HO5
    go_wp2_with fail
    obtain ⟨_, hca, haC⟩ := Kd.R_reads' Ha6.out
    have Hca := Aside0.mk hca
    have HaC := Aside0.mk haC
    clear hca haC
    refine (verditerref06_Same.calls 2999 Aa ca mL Ab cb mL true _ HaC.out Hca.out Hb6.out Hcb.out HsM.out).mono ?_
    rintro e w7 ⟨rfl, hb⟩
    have hb := hb.below
    have HB7 := Aside0.mk (HB6.out.trans (hb.mono HB6.out.size))
    have H47 := Aside0.mk (H46.out.trans (hb.mono H46.out.size))
    have Hd7 := Aside0.mk (Kd.C_below Hd6.out hb)
    have Hc7 := Aside0.mk (Kd.C_below Hc6.out hb)
    have Ha7 := Aside0.mk (Kd.R_below Ha6.out hb)
    clear hb HB6 H46 Hd6 Hc6 Hb6 HaC Ha6
    go_wp2_with fail
    refine (verditerref06_Same.calls 2999 Ac cc dL Ad cd dL true _ Hc7.out Hcc.out Hd7.out Hcd.out HsD.out).mono ?_
    rintro e w8 ⟨rfl, hb⟩
    have hb := hb.below
    have HB8 := Aside0.mk (HB7.out.trans (hb.mono HB7.out.size))
    have H48 := Aside0.mk (H47.out.trans (hb.mono H47.out.size))
    have Hc8 := Aside0.mk (Kd.C_below Hc7.out hb)
    have Ha8 := Aside0.mk (Kd.R_below Ha7.out hb)
    clear hb HB7 H47 Hd7 Hc7 Ha7
    by_cases hz : q = 0
    rotate_left
    · have hme := HML.out
      rw [if_neg hz] at hme
      subst hme
      have q1 : (q == 0) = false := by simpa using hz
      go_wp2_with fail
      go_loopg [22] 0 (fun gg s wr => s = .int .i64 0 ∧ Aside0 (wr = w8))
      case atStart => exact ⟨rfl, ⟨rfl⟩⟩
      case round =>
        obtain ⟨rfl, HW⟩ := hrel
        have hw := HW.out
        subst hw
        go_wp2_with fail
        refine (verditerref06_Same.calls 2999 Ao co l1 A1 c1 l1 true _ (Kd.C_below HO4.out H48.out) HOc.out (Kd.C_below HR.out HB8.out) HC.out HsO.out).mono ?_
        rintro e w9 ⟨rfl, hb⟩
        have HB9 := Aside0.mk (HB8.out.trans (hb.below.mono HB8.out.size))
        clear hb
        go_wp2_with fail
        refine (verditerlaw06_known.calls 2999 true _ HK.out).mono ?_
        rintro e w10 ⟨rfl, hb⟩
        have HB10 := Aside0.mk (HB9.out.trans (hb.mono HB9.out.size))
        clear hb
        go_wp2
        go_ret
        exact ⟨rfl, HB10.out⟩
    subst hz
    obtain ⟨hp, hlo, hhi⟩ := nErr_ok HQ.out.symm
    obtain ⟨n, hn⟩ := Int.eq_ofNat_of_zero_le hlo
    have hnl : n < l1.length := by omega
    have hme := HML.out
    have hde := HDL.out
    rw [if_pos rfl, hn, Int.toNat_natCast] at hme hde
    obtain ⟨x, hx⟩ : ∃ x : Nat, x = (foundR a0 l1).length := ⟨_, rfl⟩
    obtain ⟨z, hz⟩ : ∃ z : Nat, z = (foundR a0 dL).length := ⟨_, rfl⟩
    have hzx : z ≤ x := by rw [hx, hz, hde]; exact erase_found hp n
    have P1 := Aside0.mk (show weigh_Possible.f a0 l1 = some ((x : Int), 0) by rw [Possible_f, if_pos hp, hx])
    have P2 := Aside0.mk (show weigh_Possible.f a0 mL = some ((x : Int), 0) by rw [Possible_f, hme, if_pos (turn_ok hp n hnl), turn_found hp n hnl, hx])
    have P3 := Aside0.mk (show weigh_Possible.f a0 dL = some ((z : Int), 0) by rw [Possible_f, hz, hde, if_pos (erase_ok hp n)])
    have hml : mL.length = l1.length := by rw [hme, turnP, List.length_set]
    have z1 : ((x : Int) != (x : Int)) = false := by simp
    have z2 : ¬ ((z : Int) > (x : Int)) := by omega
    obtain ⟨g, cap, hA, _, _, _⟩ := Kd.R_form Ha8.out (by omega)
    injection hA with hA1 _ hA3
    subst hA1 hA3
    have hmL0 := HmB.out
    have HMl := Aside0.mk hmL0.1
    have HMs := Aside0.mk hmL0.2
    clear hx hz hme hde hp hhi hml hmL0 hlo hn hzx
    go_wp2_with fail
    refine (weigh_Possible.calls a0 A1 c1 l1 x 0 _ (Kd.C_below HR.out HB8.out) HC.out P1.out).mono ?_
    rintro e w9 ⟨rfl, hb⟩
    have HB9 := Aside0.mk (HB8.out.trans (hb.mono HB8.out.size))
    have H49 := Aside0.mk (H48.out.trans (hb.mono H48.out.size))
    have Hc9 := Aside0.mk (Kd.C_below Hc8.out hb)
    have Ha9 := Aside0.mk (Kd.R_below Ha8.out hb)
    clear hb HB8 H48 Hc8 Ha8
    go_wp2_with fail
    refine (weigh_Possible.calls a0 _ _ mL x 0 _ (Kd.R_reads' Ha9.out).2.2 (Kd.R_reads' Ha9.out).2.1 P2.out).mono ?_
    rintro e w10 ⟨rfl, hb⟩
    have HB10 := Aside0.mk (HB9.out.trans (hb.mono HB9.out.size))
    have H410 := Aside0.mk (H49.out.trans (hb.mono H49.out.size))
    have Hc10 := Aside0.mk (Kd.C_below Hc9.out hb)
    have Ha10 := Aside0.mk (Kd.R_below Ha9.out hb)
    clear hb HB9 H49 Hc9 Ha9
    go_wp2_with fail
    refine (weigh_Possible.calls a0 _ _ dL z 0 _ Hc10.out Hcc.out P3.out).mono ?_
    rintro e w11 ⟨rfl, hb⟩
    have H411 := Aside0.mk (H410.out.trans (hb.mono H410.out.size))
    have Ha11 := Aside0.mk (Kd.R_below Ha10.out hb)
    clear hb HB10 H410 Hc10 Ha10
    obtain ⟨cells, hgb, hLf⟩ := R_lefts Ha11.out
    have HLf := Aside0.mk hLf
    clear hLf
    go_wp2_with fail
    have z5 : decide (x < z) = false := by simp; omega
    rw [z5]
    clear z5
    go_loopg [22] mL.length (fun gg s wr => ∃ i : Nat, i ≤ mL.length ∧ mL.length - i ≤ gg ∧ s = .int .i64 i ∧ Aside0 (LeftOk wr w4.heap.size g mL cells) ∧ Aside0 (Below w4.heap.size w4 wr))
    case atStart => exact ⟨0, by omega, by omega, rfl, HLf, H411⟩
    case round =>
      obtain ⟨i, hi, hgi, rfl, HLw, BW⟩ := hrel
      by_cases hil : i < mL.length
      · have hilz : (i : Int) < (mL.length : Int) := by omega
        obtain ⟨wo, rfl⟩ : ∃ q : World, q = wr := ⟨_, rfl⟩
        obtain ⟨go, rfl⟩ : ∃ q : Nat, q = gk := ⟨_, rfl⟩
        obtain ⟨A, c, hcl, hrow⟩ := HLw.out.2 i hil
        have hm50 := (HMs.out _ (mem_getD z53 mL i hil)).1
        generalize (mL.getD i z53).f0.length = m at *
        have HCl := Aside0.mk hcl
        clear hcl hrow
        go_wp2_with fail
        go_loopg [23] m (fun gg s wi => ∃ j : Nat, j ≤ m ∧ m - j ≤ gg ∧ s = .int .i64 j ∧ Aside0 (LeftOk wi w4.heap.size g mL cells) ∧ Aside0 (Below w4.heap.size w4 wi))
        case atStart => exact ⟨0, by omega, by omega, rfl, HLw, BW⟩
        case round =>
          obtain ⟨j, hj, hgj, rfl, HLi, BI⟩ := hrel
          obtain ⟨A', c', hcl', hrow⟩ := HLi.out.2 i hil
          rw [HCl.out] at hcl'
          have hv := Option.some.inj hcl'
          injection hv with hv1 hv2 hv3
          subst hv1 hv3
          rw [← hv2] at hrow
          have k0 : wr.cell? ⟨g, i * 2, none⟩ = some (.slice A m c) := (blk_cell HLi.out.1 _).trans HCl.out
          clear hcl'
          by_cases hjm : j < m
          · have hjz : (j : Int) < (m : Int) := by omega
            obtain ⟨b, cs, rfl, hbb, hbl, hbs⟩ := hrow (by omega)
            obtain ⟨u, k1⟩ : ∃ u, wr.cell? ⟨b, j, none⟩ = some u := ⟨_, (blk_cell hbl _).trans (Array.getElem?_eq_getElem (by omega))⟩
            have k2 : wr.frozen? ⟨b, j, none⟩ = false := blk_frozen hbl _
            have HLn := Aside0.mk (HLi.out.put hbl (j := j) (.int .i64 (-1)))
            have HBn := Aside0.mk ((below_set BI.out hbb : Below w4.heap.size w4 (wr.setCell ⟨b, j, none⟩ (.int .i64 (-1)))))
            clear hv2 hrow hbl hbs
            go_wp2
            go_roundg (m - (j + 1))
            case measure => omega
            case rel => exact ⟨j + 1, by omega, by omega, by go_num, HLn, HBn⟩
          · have hjz : ¬ (j : Int) < (m : Int) := by omega
            clear hv2 hrow
            go_wp2
            have hm0 := HMl.out
            go_roundg (mL.length - (i + 1))
            case measure => omega
            case rel => exact ⟨i + 1, by omega, by omega, by rw [wrs i (by omega)], HLi, BI⟩
      · have hilz : ¬ (i : Int) < (mL.length : Int) := by omega
        have HBw := Aside0.mk (HB4.out.trans (BW.out.mono HB4.out.size))
        go_wp2_with fail
        refine (verditerref06_Same.calls 2999 Ao co l1 A1 c1 l1 true _ (Kd.C_below HO4.out BW.out) HOc.out (Kd.C_below HR.out HBw.out) HC.out HsO.out).mono ?_
        rintro e w12 ⟨rfl, hb⟩
        have HB12 := Aside0.mk (HBw.out.trans (hb.below.mono HBw.out.size))
        clear hb
        go_wp2_with fail
        refine (verditerlaw06_known.calls 2999 true _ HK.out).mono ?_
        rintro e w13 ⟨rfl, hb⟩
        have HB13 := Aside0.mk (HB12.out.trans (hb.mono HB12.out.size))
        clear hb
        go_wp2
        go_ret
        exact ⟨rfl, HB13.out⟩
end Go.Proofs.Ytdbeochifofdoaa.X
end

section
/-! The law WeighMirrors: own := KeepWeighings(plan); what it states; KeptWeighings(own, plan). -/
namespace Go.Proofs.Ytdbeochifofdoaa.X
open Go.RowKit Go.Proofs.YtdbeochifofdoaaW.PrintWords Go.Proofs.YtdbeochifofdoaaW.PrintLast Go.Proofs.YtdbeochifofdoaaW.PrintMore
set_option linter.unusedVariables false
set_option linter.unusedSimpArgs false

set_option maxHeartbeats 4000000 in
set_option maxRecDepth 100000 in
theorem weighMirrors_calls (k : Nat) (a0 : Int) (A : Option Addr) (l : List S53) (ys : List S53) (b0 : Int) (w : World) (hl : Kd.C k53 w A l.length l) (hc : l.length ≤ ys.length) (hF : FullW w A ys) (hn : ys.length ≤ 2932031007402)
    (hs : ∀ y, y ∈ ys → y.f0.length ≤ 17592186044416 ∧ y.f1.length ≤ 17592186044416) (h : verditerlaw06_weighMirrors.f k a0 l b0 = some true) :
    Calls Try.prog 15 #[.int .i64 a0, .slice A l.length ys.length, .int .i64 b0] w fun e w' => e = .returned (.bool true) ∧ Below w.heap.size w w' := by
  have HL := Aside0.mk hl
  have HF := Aside0.mk hF
  have HS := Aside0.mk hs
  have H := Aside0.mk h
  clear hl hF hs h
  go_enter Try.func15, Try.ntmps15
  go_wp2_with fail
  refine (keepW_calls A l.length ys w HF.out hc hn HS.out).mono ?_
  rintro e w1 ⟨v, rfl, hN, hB1⟩
  obtain ⟨Ao, co, rfl⟩ := Kd.N_slice hN
  have HO := Aside0.mk (Kd.N_reads' hN).2.2
  have HB1 := Aside0.mk hB1
  clear hN hB1
  go_wp2_with fail
  refine (verditerlaw06_weighMirrors.calls k a0 A ys.length l b0 true _ (Kd.C_below HL.out HB1.out) hc H.out).mono ?_
  rintro e w2 ⟨rfl, hB2⟩
  have HB2 := Aside0.mk hB2
  have HB := Aside0.mk (HB1.out.trans (hB2.mono HB1.out.size))
  clear hB2
  go_wp2_with fail
  refine (keptW_calls Ao co A l.length ys _ (Kd.C_below HO.out HB2.out) (HF.out.below HB.out) hc).mono ?_
  rintro e w3 ⟨rfl, hB3⟩
  have HB3 := Aside0.mk (HB.out.trans (hB3.mono HB.out.size))
  clear hB3
  go_wp2
  go_ret
  exact ⟨rfl, HB3.out⟩
end Go.Proofs.Ytdbeochifofdoaa.X
end

section
/-! A plan that comes in: what its cells hold, up to its length and up to its capacity. -/
namespace Go.Proofs.Ytdbeochifofdoaa.X
open Go.ChangeShapes Go.WideShapes Go.RowKit Go.Proofs.YtdbeochifofdoaaW.PrintWords Go.Proofs.YtdbeochifofdoaaW.PrintLast Go.Proofs.YtdbeochifofdoaaW.PrintMore
set_option linter.unusedVariables false
set_option linter.unusedSimpArgs false

theorem list_of {α : Type} (d : α) (n : Nat) (P : Nat → α → Prop) (h : ∀ i, i < n → ∃ y, P i y) : ∃ ys : List α, ys.length = n ∧ ∀ i, i < n → P i (ys.getD i d) := by
  classical
  refine ⟨(List.range n).map (fun i => if h' : i < n then (h i h').choose else d), by simp, fun i hi => ?_⟩
  have : ((List.range n).map (fun i => if h' : i < n then (h i h').choose else d)).getD i d = (h i hi).choose := by simp [List.getD_eq_getElem?_getD, hi]
  rw [this]
  exact (h i hi).choose_spec
theorem C_take {α : Type} {d : Kd α} {w : World} {A : Option Addr} {n : Nat} {xs : List α} (h : d.C w A n xs) (m : Nat) (hm : m ≤ n) : d.C w A m (xs.take m) := by
  obtain ⟨h1, h2, h3⟩ := h
  refine ⟨by rw [List.length_take]; omega, by omega, fun h0 => ?_⟩
  obtain ⟨ad, e, hc⟩ := h3 (by omega)
  refine ⟨ad, e, fun j p hj => hc j p ?_⟩
  rw [List.getElem?_take] at hj
  split at hj
  · exact hj
  · cases hj
theorem weights_mem_all {H : Type} {P : Program} {t : TypeId} : ∀ {ds : List (DataW H)} {d : DataW H}, d ∈ ds → ∀ n ∈ d.weights P t, n ∈ DataW.weightsAll P t ds
  | d0 :: ds, d, hd, n, hn => by
    rw [DataW.weightsAll, List.mem_append]
    rcases List.mem_cons.1 hd with rfl | hd
    · exact .inl hn
    · exact .inr (weights_mem_all hd n hn)
  | [], _, hd, _, _ => by cases hd
theorem o_bytes3 : Try.prog.bytesOf 3 = 8 := by kernel_rfl
theorem o_bytes53 : Try.prog.bytesOf 53 = 48 := by kernel_rfl
theorem o_cells3 : Try.prog.cellsOf 3 = 1 := by kernel_rfl
theorem o_cells43 : Try.prog.cellsOf 43 = 1 := by kernel_rfl
theorem o_cells53 : Try.prog.cellsOf 53 = 2 := by kernel_rfl
/-- A list of numbers that comes in. -/
theorem open_intsK {H : Type} {enc : TypeId × Value → H} {W : World} {t : TypeId} {fuel : Nat} {cs : List Value} {x : DataW H × List MemPlace} (ht : Try.prog.underlying t = some (.slice 3))
    (h : DataW.trod enc Try.prog W 0 (fun _ => true) true fuel t cs = some x) (hsz : ∀ n ∈ x.1.weights Try.prog t, n ≤ reachBytes) :
    ∃ (A : Option Addr) (n : Nat) (ys : List Int), cs = [.slice A n ys.length] ∧ n ≤ ys.length ∧ ys.length ≤ 17592186044416 ∧ Kd.C (Kd.int .i64) W A ys.length ys ∧ ∀ z, z ∈ ys → (Lit.int .i64 z).wf = true := by
  rcases open_ints ht Try.underlying3 o_cells3 h with ⟨rfl, rfl⟩ | ⟨a, len, cap, zs, rfl, _, hl, hm, hz, rfl, hcell, hwz⟩
  · exact ⟨none, 0, [], rfl, Nat.le_refl _, by simp, ⟨rfl, by simp, fun h => absurd h (by simp)⟩, fun z hz => by cases hz⟩
  · rw [if_pos rfl] at hz
    subst hz
    have hw : zs.length * 8 ≤ reachBytes := by
      have := hsz ((lits (H := H) .i64 (zs.take len) ++ lits (H := H) .i64 (zs.drop len)).length * Try.prog.bytesOf 3) (by simp [DataW.weights, ht])
      rw [o_bytes3] at this
      simpa [lits, Nat.min_eq_left hl, Nat.add_sub_cancel' hl] using this
    unfold reachBytes at hw
    refine ⟨some a, len, zs, rfl, hl, by omega, Kd.C_of_reads (d := (0 : Int)) (h1 := fun _ => rfl) ⟨rfl, by omega, fun _ => ⟨a, rfl, fun j hj => hcell j hj⟩⟩, fun z hz => ?_⟩
    exact hwz z hz
/-- One weighing that comes in, and its lists' lengths. -/
structure PlanAt (W : World) (a : Addr) (z : S53 × Nat × Nat) : Prop where
  at_ : ∃ Al Ar, W.cell? a = some (.slice Al z.2.1 z.1.f0.length) ∧ W.cell? ⟨a.block, a.off + 1, none⟩ = some (.slice Ar z.2.2 z.1.f1.length) ∧ Kd.C (Kd.int .i64) W Al z.1.f0.length z.1.f0 ∧ Kd.C (Kd.int .i64) W Ar z.1.f1.length z.1.f1
  nl : z.2.1 ≤ z.1.f0.length
  nr : z.2.2 ≤ z.1.f1.length
  bl : z.1.f0.length ≤ 17592186044416
  br : z.1.f1.length ≤ 17592186044416
  il : ∀ x, x ∈ z.1.f0 → (Lit.int .i64 x).wf = true
  ir : ∀ x, x ∈ z.1.f1 → (Lit.int .i64 x).wf = true
theorem o_underlying43 : Try.prog.underlying 43 = some (.slice 3) := by kernel_rfl
theorem o_two_of {α : Type} {l : List α} (h : l.length = 2) : ∃ a b, l = [a, b] := by
  match l, h with
  | [a, b], _ => exact ⟨a, b, rfl⟩
theorem open_weighing {H : Type} {enc : TypeId × Value → H} {W : World} {a : Addr} {fuel : Nat} {cs : List Value} {x : DataW H × List MemPlace} (hc : W.cells? 0 a 2 = some cs)
    (h : DataW.trod enc Try.prog W 0 (fun _ => true) true fuel 53 cs = some x) (hsz : ∀ n ∈ x.1.weights Try.prog 53, n ≤ reachBytes) : ∃ z, PlanAt W a z := by
  obtain ⟨xs, n, _, rfl, hcs, hxs, hf⟩ := DataW.trod_struct Try.underlying53 h
  obtain ⟨_, h2, hcell⟩ := World.cells?_some hc
  obtain ⟨c0, c1, rfl⟩ : ∃ c0 c1, cs = [c0, c1] := o_two_of h2
  obtain ⟨x0, x1, rfl⟩ : ∃ c0 c1, xs = [c0, c1] := o_two_of hxs
  have e0 := hf 0 ⟨"Left", 43, 0, false, "", "", 0⟩ rfl
  have e1 := hf 1 ⟨"Right", 43, 1, false, "", "", 24⟩ rfl
  rw [o_cells43] at e0 e1
  simp only [DataW.weights, Try.underlying53, List.map_cons, List.map_nil, DataW.weightsEach, List.append_nil, List.mem_append] at hsz
  obtain ⟨A0, n0, ys0, q0, l0, b0, C0, i0⟩ := open_intsK o_underlying43 e0 (fun m hm => hsz m (.inl hm))
  obtain ⟨A1, n1, ys1, q1, l1, b1, C1, i1⟩ := open_intsK o_underlying43 e1 (fun m hm => hsz m (.inr hm))
  obtain rfl : c0 = .slice A0 n0 ys0.length := by simpa using q0
  obtain rfl : c1 = .slice A1 n1 ys1.length := by simpa using q1
  have k0 := hcell 0 (by omega)
  have k1 := hcell 1 (by omega)
  refine ⟨(⟨ys0, ys1⟩, n0, n1), ⟨A0, A1, ?_, ?_, C0, C1⟩, l0, l1, b0, b1, i0, i1⟩
  · simpa [Addr.add] using k0
  · simpa [Addr.add] using k1
theorem open_plan {H : Type} {enc : TypeId × Value → H} {W : World} {v : Value} {d : DataW H} {ps : List MemPlace} (h : DataW.Trod enc Try.prog W 0 (fun _ => true) true 22 v d ps) (hv : v.cells = #[v])
    (hsz : ∀ n ∈ d.weights Try.prog 22, n ≤ reachBytes) :
    ∃ (A : Option Addr) (l ys : List S53), v = .slice A l.length ys.length ∧ l.length ≤ ys.length ∧ ys.length ≤ 2932031007402 ∧ Kd.C k53 W A l.length l ∧ FullW W A ys ∧
      (∀ y, y ∈ ys → y.f0.length ≤ 17592186044416 ∧ y.f1.length ≤ 17592186044416) ∧ (∀ y, y ∈ l → (∀ x, x ∈ y.f0 → (Lit.int .i64 x).wf = true) ∧ (∀ x, x ∈ y.f1 → (Lit.int .i64 x).wf = true) ∧ y.f0.length ≤ 17592186044416 ∧ y.f1.length ≤ 17592186044416) := by
  obtain ⟨fuel, hf⟩ := h
  rw [hv] at hf
  rcases DataW.trod_slice Try.underlying22 hf with ⟨hcs, _⟩ | ⟨a, len, cap, elems, rest, n, _, hcs, hx, _, hl, hm, hlen, hel, hsp, _⟩
  · obtain rfl : v = .slice none 0 0 := by simpa using hcs
    exact ⟨none, [], [], rfl, Nat.le_refl _, by simp, ⟨rfl, by simp, fun h => absurd h (by simp)⟩, fun i hi => absurd hi (by simp), fun y hy => (by cases hy), fun y hy => (by cases hy)⟩
  obtain rfl : v = .slice (some a) len cap := by simpa using hcs
  obtain ⟨hrl, hre⟩ := hsp rfl
  obtain ⟨rfl, _⟩ := Prod.mk.inj hx
  simp only [DataW.weights, Try.underlying22, o_bytes53, List.mem_cons, List.mem_append] at hsz
  have hb : (len + (cap - len)) * 48 ≤ reachBytes := by
    have := hsz _ (.inl rfl)
    simpa [hlen, hrl] using this
  unfold reachBytes at hb
  rw [o_cells53] at hel hre
  have each : ∀ i, i < cap → ∃ z, PlanAt W (a.add (i * 2)) z := by
    intro i hi
    by_cases hil : i < len
    · have e := hel i hil
      rw [List.getElem?_eq_getElem (by omega)] at e
      obtain ⟨cs, hc, ht⟩ := Option.bind_eq_some_iff.1 e
      exact open_weighing hc ht (fun m hm => hsz m (.inr (.inl (weights_mem_all (List.mem_map.2 ⟨_, List.getElem_mem _, rfl⟩) m hm))))
    · have e := hre (i - len) (by omega)
      rw [List.getElem?_eq_getElem (by omega), show len + (i - len) = i by omega] at e
      obtain ⟨cs, hc, ht⟩ := Option.bind_eq_some_iff.1 e
      exact open_weighing hc ht (fun m hm => hsz m (.inr (.inr (weights_mem_all (List.mem_map.2 ⟨_, List.getElem_mem _, rfl⟩) m hm))))
  obtain ⟨zs, hzl, hz⟩ := list_of (z53, 0, 0) cap _ each
  have hget : ∀ i, i < cap → (zs.map (·.1)).getD i z53 = (zs.getD i (z53, 0, 0)).1 := by
    intro i hi
    simp [List.getD_eq_getElem?_getD, List.getElem?_map, List.getElem?_eq_getElem (show i < zs.length by omega)]
  have hmem : ∀ z, z ∈ zs → ∃ b, PlanAt W b z := by
    intro z h
    obtain ⟨i, hi, rfl⟩ := List.mem_iff_getElem.1 h
    have := hz i (by omega)
    rw [List.getD_eq_getElem?_getD, List.getElem?_eq_getElem hi] at this
    exact ⟨_, this⟩
  have hl2 : ((zs.take len).map fun z => (⟨z.1.f0.take z.2.1, z.1.f1.take z.2.2⟩ : S53)).length = len := by simp; omega
  have hl3 : (zs.map (·.1)).length = cap := by simp; omega
  refine ⟨some a, (zs.take len).map fun z => ⟨z.1.f0.take z.2.1, z.1.f1.take z.2.2⟩, zs.map (·.1), by rw [hl2, hl3], by omega, by omega, ?_, ?_, ?_, ?_⟩
  · refine ⟨rfl, by omega, fun h0 => ⟨a, rfl, fun j p hj => ?_⟩⟩
    rw [List.getElem?_map, Option.map_eq_some_iff] at hj
    obtain ⟨z, hj, rfl⟩ := hj
    rw [List.getElem?_take] at hj
    split at hj
    rotate_left
    · cases hj
    rename_i hjl
    have hp := hz j (by omega)
    rw [List.getD_eq_getElem?_getD, hj, Option.getD_some] at hp
    obtain ⟨Al, Ar, h0, h1, hC0, hC1⟩ := hp.at_
    have t0 := C_take hC0 _ hp.nl
    have t1 := C_take hC1 _ hp.nr
    have n0 : (z.1.f0.take z.2.1).length = z.2.1 := by rw [List.length_take]; have := hp.nl; omega
    have n1 : (z.1.f1.take z.2.2).length = z.2.2 := by rw [List.length_take]; have := hp.nr; omega
    refine ⟨[.slice Al (z.1.f0.take z.2.1).length z.1.f0.length, .slice Ar (z.1.f1.take z.2.2).length z.1.f1.length], rfl, k53_mk W ⟨z.1.f0.take z.2.1, z.1.f1.take z.2.2⟩ (by rw [n0]; exact hp.nl) (by rw [n0]; exact t0) (by rw [n1]; exact hp.nr) (by rw [n1]; exact t1), ?_⟩
    rw [n0, n1]
    intro i u hu
    match i with
    | 0 =>
      obtain rfl := Option.some.inj hu
      rw [show k53.sz = 2 from rfl, Nat.add_zero]
      exact h0
    | 1 =>
      obtain rfl := Option.some.inj hu
      rw [show k53.sz = 2 from rfl, add_field a (j * 2) 1 (by omega)]
      exact h1
    | i + 2 => cases hu
  · intro i hi
    rw [hl3] at hi
    have hp := hz i hi
    obtain ⟨Al, Ar, h0, h1, hC0, hC1⟩ := hp.at_
    rw [hget i hi]
    exact ⟨a, Al, _, Ar, _, rfl, h0, h1, hp.nl, hp.nr, hC0, hC1⟩
  · intro y hy
    obtain ⟨z, hz, rfl⟩ := List.mem_map.1 hy
    obtain ⟨b, hp⟩ := hmem z hz
    exact ⟨hp.bl, hp.br⟩
  · intro y hy
    obtain ⟨z, hz, rfl⟩ := List.mem_map.1 hy
    obtain ⟨b, hp⟩ := hmem z (List.mem_of_mem_take hz)
    have := hp.bl
    have := hp.br
    exact ⟨fun x hx => hp.il x (List.mem_of_mem_take hx), fun x hx => hp.ir x (List.mem_of_mem_take hx), by rw [List.length_take]; omega, by rw [List.length_take]; omega⟩
end Go.Proofs.Ytdbeochifofdoaa.X
end

section
namespace Go.Proofs.Ytdbeochifofdoaa.Pure
open Go.RowKit Go.Proofs.Ytdbeochifofdoaa.X Go.Proofs.YtdbeochifofdoaaW.PrintWords Go.Proofs.YtdbeochifofdoaaW.PrintLast
theorem WeighMirrors (lots : Int) (l : List S53) (b0 : Int) (hl : l.length < 9223372036854775807) : ∃ k, verditerlaw06_weighMirrors.f k lots l b0 = some true := ⟨0, if_pos hl⟩
end Go.Proofs.Ytdbeochifofdoaa.Pure
end

section
/-! The row of the law WeighMirrors (after the rows that print.py writes). -/
namespace Go.Proofs.Ytdbeochifofdoaa.weighMirrors
open Go.ChangeShapes Go.WideShapes Go.ChangeAt Go.RowKit
open Go.ChangeMaps (open_string shut_string)
set_option linter.unusedVariables false
theorem own : ownKnob Try.prog.godebug = none := by kernel_rfl
theorem laidOut : laidOutB Try.prog = true := by kernel_rfl
set_option maxRecDepth 100000 in
theorem lifted (os : Os) (started : os.Started) (H : Type) (enc : TypeId × Value → H) :
    ReturnsInHanded {} Try.checked os 15 .any (Rows.weighMirrorsSpec.pre6 enc Try.prog Try.f15 Rows.weighMirrorsRow.domain false) (Rows.weighMirrorsSpec.post enc Try.prog Try.f15 false true false false) := by
  refine returnsInHanded_of_change_sized (C := Try.checked) own started (by kernel_rfl) Try.func15
    (ChangeSpec.witness6 (enc := enc) (C := Try.checked) false ⟨#[], #[.int .i64 0, .slice none 0 0, .int .i64 0], []⟩ 8 (by kernel_rfl) (by kernel_rfl) (by kernel_rfl) (by kernel_rfl)) ?_
  intro W base args ds gs before hval0 hW hcnd hsz0 _
  have hsz : (DataW.weightsEach Try.prog (Try.f15.params.toList ++ Rows.weighMirrorsSpec.plain.varTypes Try.prog) (ds ++ gs)).all (· ≤ reachBytes) = true := hsz0
  have hval : ∀ (j : Nat) t v, Try.f15.params[j]? = some t → args[j]? = some v → Value.okWide Try.prog W .any base t v := hval0
  have hW' := hW
  obtain ⟨p, q, hA0, hV, rfl, hfz, hnd⟩ := hW
  have hA : DataW.TrodAll enc Try.prog W 0 (fun _ => true) true Try.f15.params.toList args.toList ds p := hA0
  rw [Try.params15] at hA hval hsz
  obtain ⟨v0, vs0, d0, ds0, p0, q0, hargs, rfl, rfl, h0, r0⟩ := trodAll_cons hA
  obtain ⟨v1, vs1, d1, ds1, p1, q1, rfl, rfl, rfl, h1, r1⟩ := trodAll_cons r0
  obtain ⟨v2, vs2, d2, ds2, p2, q2, rfl, rfl, rfl, h2, r2⟩ := trodAll_cons r1
  obtain ⟨rfl, rfl, rfl⟩ := trodAll_nil r2
  obtain rfl : args = #[v0, v1, v2] := by cases args; simp_all
  obtain ⟨rfl, rfl⟩ := trodVars_none hV
  obtain ⟨a0, rfl, rfl, rfl, w0⟩ := open_int Try.underlying3 (hval 0 3 v0 rfl rfl) h0
  obtain ⟨a1, len1, cap1, rfl⟩ := okWide_slice Try.underlying22 (hval 1 22 v1 rfl rfl)
  have k1 := h1
  have lt1 : ∀ x ∈ p1, x.block < W.heap.size := by obtain ⟨m, hm⟩ := k1; exact DataW.trod_lt m _ _ _ hm
  obtain ⟨A, l, ys, e1, hle, hyl, hC, hF, hys, hl⟩ := X.open_plan h1 rfl (fun n hn => by
    have := List.all_eq_true.1 hsz n (DataW.weights_mem_each (j := 1) (t := 22) (d := d1) rfl rfl n hn)
    simpa using this)
  obtain ⟨rfl, rfl, rfl⟩ : a1 = A ∧ len1 = l.length ∧ cap1 = ys.length := by injection e1 with h1 h2 h3; exact ⟨h1, h2, h3⟩
  obtain ⟨b0, rfl, rfl, rfl, w2⟩ := open_int Try.underlying3 (hval 2 3 v2 rfl rfl) h2
  clear hA0 hval0 hsz0 hsz
  obtain ⟨k, hk⟩ := Pure.WeighMirrors a0 l b0 (by omega)
  refine (X.weighMirrors_calls k a0 a1 l ys b0 W hC hle hF hyl hys hk).mono fun e W' ⟨he, bel⟩ => ?_
  subst he
  exact ⟨_, rfl, _, _, _, [], _, [], hW', trodAll_mk1 (shut_bool Try.underlying4 _), (trodAll_cons_mk (shut_int Try.underlying3 w0) (trodAll_cons_mk (Below.trod laidOut (by kernel_rfl) (of_decide_eq_true (by kernel_rfl)) k1 bel lt1) (trodAll_cons_mk (shut_int Try.underlying3 w2) trodAll_mk0))), rfl, bel.frame _, fun h => by cases h⟩
theorem over : Rows.weighMirrorsRow.holds Try.pinned (OpenSpec.ofChange Rows.weighMirrorsSpec) :=
  OpenClaim.holds_of_wide 15 Try.f15 rfl rfl rfl rfl rfl rfl rfl ⟨rfl, rfl, rfl, rfl, rfl⟩ rfl rfl rfl rfl rfl (by kernel_rfl) Try.func15 (by kernel_rfl)
    (of_decide_eq_true (by kernel_rfl)) (by unfold Func.isWrapper; first | (rw [if_pos (by decide +kernel)]; kernel_rfl) | (rw [if_neg (by decide +kernel)]; exact ⟨rfl, rfl⟩))
    (fun os started H enc _ => lifted os started H enc)
theorem proved : Rows.WeighMirrorsSaid := over
end Go.Proofs.Ytdbeochifofdoaa.weighMirrors
namespace Go.Proofs.Ytdbeochifofdoaa
/-- The row, under a short name, for the claim. -/
theorem weighMirrors_holds : Rows.WeighMirrorsSaid := weighMirrors.proved
end Go.Proofs.Ytdbeochifofdoaa
end
