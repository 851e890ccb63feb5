/- The law WeighTells of the given program: which plans tell.
Its conditions: none beyond the statement's own. Part 5 of 5 of the proof. -/
import Derived.Handy
import Derived.WalkSpells
import Derived.Deep.RegionHeld3
import Derived.Deep.QuietTactic
import Derived.ChangeArms
import Derived.ChangeSlices
import Derived.SizedLaws
import Derived.Deep.CutBlock
import Derived.Test.YtdbeochifofdoaaRows
import Derived.WalkKit
import Derived.ProofKit
import Derived.OpenShut
import Derived.ShutString
import Derived.ChangeOld
import Derived.Below
import Derived.Carry
import Derived.Test.YtdbeochifofdoaaKT3
section
/-! verditerref01.KeepInts. -/
namespace Go.Proofs.Ytdbeochifofdoaa.X
open Go.RowKit Go.Proofs.YtdbeochifofdoaaW.PrintWords Go.Proofs.YtdbeochifofdoaaW.PrintLast Go.Proofs.YtdbeochifofdoaaW.PrintMore
set_option linter.unusedVariables false
set_option linter.unusedSimpArgs false

set_option maxHeartbeats 1000000 in
set_option maxRecDepth 100000 in
/-- The cells of a list up to its capacity, in new memory. -/
theorem keepInts_calls (A : Option Addr) (n : Nat) (xs : List Int) (w : World) (hr : Kd.C (Kd.int .i64) w A xs.length xs) (hn : n ≤ xs.length) (hl : xs.length ≤ 17592186044416) :
    Calls Try.prog 33 #[.slice A n xs.length] w fun e w' => ∃ v : Value, e = .returned v ∧ Kd.R (Kd.int .i64) 3 w' w.heap.size (fun _ => True) v xs ∧ Below w.heap.size w w' := by
  have HL := Aside0.mk hl
  have HR := Aside0.mk hr
  clear hl hr
  have hmx : xs.length ≤ 9223372036854775807 := by have := HL.out; omega
  go_enter Try.func33, Try.ntmps33
  go_wp2_with (first | (at_builtin; refine Kd.R_append_row (Value.int .i64) (0 : Int) (h1 := fun _ => rfl) (w0 := w) w.heap.size rfl (.tmp 3) (.tmp 7) 43 3 (.int .i64 0) 8 rfl Try.underlying43 info3 rfl (by decide) (.slice (some ⟨w.heap.size, 0, none⟩) 0 0) [] xs A xs.length xs.length (fun _ => True) rfl rfl (fun _ _ => trivial) ?aO ?aR ?aB ?aS ?aL ?_))
  case aO => exact Kd.R_of_own (xs := ([] : List Int)) (own_lit w w.heap.size 3 .i64 [] (Nat.le_refl _) (by simp)) (fun _ _ => trivial)
  case aR => exact Kd.C_alloc HR.out _
  case aB => exact (Below.refl _ _).alloc (Nat.le_refl _) _
  case aS => simp
  case aL => have := HL.out; simp; omega
  intro v1 w1 hO hB _ _
  have HO := Aside0.mk hO
  have HB := Aside0.mk hB
  clear hO hB
  go_wp2
  go_ret
  exact ⟨_, rfl, HO.out, HB.out⟩
end Go.Proofs.Ytdbeochifofdoaa.X
end

section
/-! verditerref01.KeepWeighings. -/
namespace Go.Proofs.Ytdbeochifofdoaa.X
open Go.RowKit Go.Proofs.YtdbeochifofdoaaW.PrintWords Go.Proofs.YtdbeochifofdoaaW.PrintLast Go.Proofs.YtdbeochifofdoaaW.PrintMore
set_option linter.unusedVariables false
set_option linter.unusedSimpArgs false

/-- The cells of a list of weighings up to its capacity: of each weighing both lists, with their whole contents. -/
def FullW (W : World) (A : Option Addr) (ys : List S53) : Prop :=
  ∀ i, i < ys.length → ∃ ad Al nl Ar nr, A = some ad ∧ W.cell? (ad.add (i * 2)) = some (.slice Al nl (ys.getD i z53).f0.length) ∧
    W.cell? ⟨(ad.add (i * 2)).block, (ad.add (i * 2)).off + 1, none⟩ = some (.slice Ar nr (ys.getD i z53).f1.length) ∧
    nl ≤ (ys.getD i z53).f0.length ∧ nr ≤ (ys.getD i z53).f1.length ∧
    Kd.C (Kd.int .i64) W Al (ys.getD i z53).f0.length (ys.getD i z53).f0 ∧ Kd.C (Kd.int .i64) W Ar (ys.getD i z53).f1.length (ys.getD i z53).f1
theorem FullW.below {W W' : World} {A : Option Addr} {ys : List S53} (h : FullW W A ys) (hb : Below W.heap.size W W') : FullW W' A ys := by
  intro i hi
  obtain ⟨ad, Al, nl, Ar, nr, e, h1, h2, h3, h4, h5, h6⟩ := h i hi
  exact ⟨ad, Al, nl, Ar, nr, e, (hb.cell (World.block_lt_of_cell? W _ h1)).trans h1, (hb.cell (World.block_lt_of_cell? W _ h2)).trans h2, h3, h4, Kd.C_below h5 hb, Kd.C_below h6 hb⟩

/-- Two new lists lie in none of the rows so far. -/
theorem keep_fresh {w wo w1 w2 : World} {v : Value} {out : List S53} {u1 u2 : Value} {l1 l2 : List Int} (h0 : w.heap.size ≤ wo.heap.size) (h1 : wo.drew.heap.size ≤ w1.heap.size)
    (hN : Kd.N k53 53 wo w.heap.size (fun k_ => w.heap.size ≤ k_) v out) (hR1 : Kd.R (Kd.int .i64) 3 w1 wo.drew.heap.size (fun _ => True) u1 l1) (hR2 : Kd.R (Kd.int .i64) 3 w2 w1.heap.size (fun _ => True) u2 l2) :
    ∀ k, (some k = u1.ownBlock ∨ some k = u2.ownBlock) → w.heap.size ≤ k ∧ some k ≠ v.ownBlock := by
  intro k hk
  have e : wo.drew.heap.size = wo.heap.size := rfl
  have hb : wo.heap.size ≤ k := by
    rcases hk with h | h
    · have := Kd.R_base hR1 k h.symm
      omega
    · have := Kd.R_base hR2 k h.symm
      omega
  refine ⟨by omega, fun he => ?_⟩
  have := Kd.N_lt hN k he.symm
  omega

set_option maxHeartbeats 4000000 in
set_option maxRecDepth 100000 in
theorem keepW_calls (A : Option Addr) (n : Nat) (ys : List S53) (w : World) (hF : FullW w A ys) (hn : n ≤ ys.length) (hl : ys.length ≤ 2932031007402)
    (hs : ∀ y, y ∈ ys → y.f0.length ≤ 17592186044416 ∧ y.f1.length ≤ 17592186044416) :
    Calls Try.prog 17 #[.slice A n ys.length] w fun e w' => ∃ v : Value, e = .returned v ∧ Kd.N k53 53 w' w.heap.size (fun k_ => w.heap.size ≤ k_) v ys ∧ Below w.heap.size w w' := by
  have HF := Aside0.mk hF
  have HS := Aside0.mk hs
  clear hF hs
  go_enter Try.func17, Try.ntmps17
  go_wp2
  go_loopg [3, 4] ys.length (fun gg v3 s wr => ∃ (i : Nat) (out : List S53), i ≤ ys.length ∧ ys.length - i ≤ gg ∧ s = .int .i64 i ∧ Aside0 (Below w.heap.size w wr) ∧ Aside0 (Kd.N k53 53 wr w.heap.size (fun k_ => w.heap.size ≤ k_) v3 out) ∧ Aside0 (out = ys.take i))
  case atStart => exact ⟨0, [], Nat.zero_le _, by omega, rfl, ⟨Below.refl _ _⟩, ⟨Kd.N_nil _ _ _ _ _⟩, ⟨by simp⟩⟩
  case round =>
    obtain ⟨i, out, hi, hg, rfl, BW, HO, AX⟩ := hrel
    by_cases hil : i < ys.length
    · have hilz : (i : Int) < (ys.length : Int) := by omega
      obtain ⟨ad, Al, nl, Ar, nr, e1, h1, h2, h3, h4, h5, h6⟩ := HF.out i hil
      subst e1
      have HSi := Aside0.mk (HS.out _ (mem_getD z53 ys i hil))
      have HT : Aside0 (ys.take (i + 1) = ys.take i ++ [ys.getD i z53]) := ⟨by rw [List.take_succ_eq_append_getElem hil]; simp [List.getD_eq_getElem?_getD, List.getElem?_eq_getElem hil]⟩
      have hol : out.length ≤ i := by rw [AX.out]; simp; omega
      obtain ⟨Av, cv, rfl⟩ := Kd.N_slice HO.out
      generalize hy : ys.getD i z53 = y at *
      clear hy
      obtain ⟨xl, xr⟩ := y
      dsimp only at h1 h2 h3 h4 h5 h6 HSi
      have CL : Aside0 (∀ W, (Below w.heap.size w W ∧ W.cell? (ad.add (i * 2)) = some (.slice Al nl xl.length) ∧ W.cell? ⟨(ad.add (i * 2)).block, (ad.add (i * 2)).off + 1, none⟩ = some (.slice Ar nr xr.length)) →
          Calls Try.prog 33 #[.slice Al nl xl.length] W fun e w' => ∃ A1 c1, e = .returned (.slice A1 xl.length c1) ∧ Kd.R (Kd.int .i64) 3 w' W.heap.size (fun _ => True) (.slice A1 xl.length c1) xl ∧ Below W.heap.size W w' ∧
            (Below w.heap.size w w' ∧ w'.cell? (ad.add (i * 2)) = some (.slice Al nl xl.length) ∧ w'.cell? ⟨(ad.add (i * 2)).block, (ad.add (i * 2)).off + 1, none⟩ = some (.slice Ar nr xr.length))) :=
        ⟨fun W hW => (keepInts_calls Al nl xl W (Kd.C_below h5 hW.1) h3 HSi.out.1).mono (by
          rintro e w' ⟨v, rfl, hR, hb⟩
          obtain ⟨A1, c1, rfl⟩ := Kd.R_slice hR
          exact ⟨A1, c1, rfl, hR, hb, hW.1.trans (hb.mono hW.1.size), (hb.cell (World.block_lt_of_cell? W _ hW.2.1)).trans hW.2.1, (hb.cell (World.block_lt_of_cell? W _ hW.2.2)).trans hW.2.2⟩)⟩
      have CR : Aside0 (∀ W, (Below w.heap.size w W ∧ W.cell? (ad.add (i * 2)) = some (.slice Al nl xl.length) ∧ W.cell? ⟨(ad.add (i * 2)).block, (ad.add (i * 2)).off + 1, none⟩ = some (.slice Ar nr xr.length)) →
          Calls Try.prog 33 #[.slice Ar nr xr.length] W fun e w' => ∃ A1 c1, e = .returned (.slice A1 xr.length c1) ∧ Kd.R (Kd.int .i64) 3 w' W.heap.size (fun _ => True) (.slice A1 xr.length c1) xr ∧ Below W.heap.size W w' ∧
            (Below w.heap.size w w' ∧ w'.cell? (ad.add (i * 2)) = some (.slice Al nl xl.length) ∧ w'.cell? ⟨(ad.add (i * 2)).block, (ad.add (i * 2)).off + 1, none⟩ = some (.slice Ar nr xr.length))) :=
        ⟨fun W hW => (keepInts_calls Ar nr xr W (Kd.C_below h6 hW.1) h4 HSi.out.2).mono (by
          rintro e w' ⟨v, rfl, hR, hb⟩
          obtain ⟨A1, c1, rfl⟩ := Kd.R_slice hR
          exact ⟨A1, c1, rfl, hR, hb, hW.1.trans (hb.mono hW.1.size), (hb.cell (World.block_lt_of_cell? W _ hW.2.1)).trans hW.2.1, (hb.cell (World.block_lt_of_cell? W _ hW.2.2)).trans hW.2.2⟩)⟩
      have hS0 : Below w.heap.size w wr.drew ∧ wr.drew.cell? (ad.add (i * 2)) = some (.slice Al nl xl.length) ∧ wr.drew.cell? ⟨(ad.add (i * 2)).block, (ad.add (i * 2)).off + 1, none⟩ = some (.slice Ar nr xr.length) :=
        ⟨below_drew1 BW.out, (BW.out.cell (World.block_lt_of_cell? w _ h1)).trans h1, (BW.out.cell (World.block_lt_of_cell? w _ h2)).trans h2⟩
      have h1o := h1
      have h2o := h2
      replace h1 := (BW.out.cell (World.block_lt_of_cell? w _ h1)).trans h1
      replace h2 := (BW.out.cell (World.block_lt_of_cell? w _ h2)).trans h2
      clear h5 h6
      have b1 : (ad.add (i * 2)).block < w.heap.size := World.block_lt_of_cell? w _ h1o
      have b2 : (⟨(ad.add (i * 2)).block, (ad.add (i * 2)).off + 1, none⟩ : Addr).block < w.heap.size := b1
      have SK : ∀ W, Below w.heap.size w W → (Below w.heap.size w W ∧ W.cell? (ad.add (i * 2)) = some (.slice Al nl xl.length) ∧ W.cell? ⟨(ad.add (i * 2)).block, (ad.add (i * 2)).off + 1, none⟩ = some (.slice Ar nr xr.length)) := fun W hb => ⟨hb, (hb.cell b1).trans h1o, (hb.cell b2).trans h2o⟩
      go_wp2
      go_region_held3 (fun W => Below w.heap.size w W ∧ W.cell? (ad.add (i * 2)) = some (.slice Al nl xl.length) ∧ W.cell? ⟨(ad.add (i * 2)).block, (ad.add (i * 2)).off + 1, none⟩ = some (.slice Ar nr xr.length)) ((first | with_reducible assumption | exact hS0 | exact SK _ (below_alloc hS2.1 _) | exact SK _ hB3 | fail)) (first | (go_at_call 33; with_reducible refine (CL.out _ ?_).mono ?_; (first | with_reducible assumption | exact hS0); rintro e w1 ⟨A1, c1, rfl, hR1, hB1, hS1⟩; have hN1 := Kd.N_below (Kd.N_drew HO.out) hB1) | (go_at_call 33; with_reducible refine (CR.out _ ?_).mono ?_; (first | with_reducible assumption | exact hS1); rintro e w2 ⟨A2, c2, rfl, hR2, hB2, hS2⟩; have hR1' := Kd.R_below hR1 hB2; have hN2 := Kd.N_below hN1 hB2) | (refine Kd.N_append_step k53 (w0 := w) w.heap.size (by rfl) (.tmp 15) (.tmp 29) 22 53 (.agg #[(.slice none 0 0), (.slice none 0 0)]) 48 rfl Try.underlying22 info53 rfl (by decide) (by omega) (.slice Av out.length cv) out (⟨xl, xr⟩ : S53) [.slice A1 xl.length c1, .slice A2 xr.length c2] (fun k_ => w.heap.size ≤ k_) (fun k_ => some k_ = (.slice A1 xl.length c1 : Value).ownBlock ∨ some k_ = (.slice A2 xr.length c2 : Value).ownBlock) rfl rfl ?aP ?aK ?aF ?aO ?aB ?aS ?aL ?_; (case aP => exact Kd.FK_of_M (k53_mkM _ w.heap.size _ (⟨xl, xr⟩ : S53) (Kd.R_mono (Kd.R_tight rfl (Kd.R_lower hR1' BW.out.size)) (fun _ h => Or.inl h)) (Kd.R_mono (Kd.R_tight rfl (Kd.R_lower hR2 (Nat.le_trans BW.out.size hB1.size))) (fun _ h => Or.inr h)))); (case aK => exact keep_fresh BW.out.size hB1.size HO.out hR1 hR2); (case aF => exact fun q hq => Nat.le_trans hS2.1.size hq); (case aO => exact hN2); (case aB => exact hS2.1); (case aS => exact hS2.1.size); (case aL => omega); intro v3 w3 hN3 hB3 _ _))
      have HN := Aside0.mk hN3
      have HB3 := Aside0.mk hB3
      clear hN3 hB3 hN2 hN1 hR1 hR1' hR2 hB1 hB2 hS1 hS2 hS0
      go_wp2
      go_roundg (ys.length - (i + 1))
      case measure => omega
      case rel =>
        refine ⟨i + 1, _, by omega, by omega, by go_num, HB3, HN, ⟨?_⟩⟩
        rw [HT.out, AX.out]
    · have hilz : ¬ (i : Int) < (ys.length : Int) := by omega
      obtain rfl : i = ys.length := by omega
      go_wp2
      go_ret
      refine ⟨_, rfl, ?_, BW.out⟩
      have h := HO.out
      rw [AX.out, List.take_of_length_le (Nat.le_refl _)] at h
      exact h
end Go.Proofs.Ytdbeochifofdoaa.X
end

section
/-! verditerref01.KeptInts. -/
namespace Go.Proofs.Ytdbeochifofdoaa.X
open Go.RowKit Go.Proofs.YtdbeochifofdoaaW.PrintWords Go.Proofs.YtdbeochifofdoaaW.PrintLast Go.Proofs.YtdbeochifofdoaaW.PrintMore
set_option linter.unusedVariables false
set_option linter.unusedSimpArgs false

set_option maxHeartbeats 2000000 in
set_option maxRecDepth 100000 in
/-- All cells are as they were: true. -/
theorem keptInts_calls (A0 : Option Addr) (c0 : Nat) (A1 : Option Addr) (n1 : Nat) (xs : List Int) (w : World) (hr0 : Kd.C (Kd.int .i64) w A0 xs.length xs) (hr1 : Kd.C (Kd.int .i64) w A1 xs.length xs) (hn : n1 ≤ xs.length) :
    Calls Try.prog 35 #[.slice A0 xs.length c0, .slice A1 n1 xs.length] w fun e w' => e = .returned (.bool true) ∧ Below w.heap.size w w' := by
  have HR0 := Aside0.mk hr0
  have HR1 := Aside0.mk hr1
  have hmx := Kd.C_max hr0
  clear hr0 hr1
  go_enter Try.func35, Try.ntmps35
  go_wp2
  go_loopg [5] xs.length (fun gg s wr => ∃ i : Nat, i ≤ xs.length ∧ xs.length - i ≤ gg ∧ s = .int .i64 i ∧ Aside0 (Below w.heap.size w wr))
  case atStart => exact ⟨0, by omega, by omega, rfl, ⟨Below.refl _ _⟩⟩
  case round =>
    obtain ⟨i, hi, hg, rfl, BW⟩ := hrel
    by_cases hlt : i < xs.length
    · have hltz : (i : Int) < (xs.length : Int) := by omega
      obtain ⟨ad, e1, hx⟩ := Kd.at_int HR0.out i (by omega) hltz
      obtain ⟨bd, e2, hy⟩ := Kd.at_int HR1.out i (by omega) hltz
      subst e1 e2
      replace hx := (BW.out.cell (World.block_lt_of_cell? w _ hx)).trans hx
      replace hy := (BW.out.cell (World.block_lt_of_cell? w _ hy)).trans hy
      simp only [Int.toNat_natCast] at hx hy
      generalize rd xs (i : Int) = v at hx hy
      go_wp2
      go_quiet (fail)
      go_wp2
      go_roundg (xs.length - (i + 1))
      case measure => omega
      case rel => exact ⟨i + 1, by omega, by omega, by go_num, ⟨pw_below_drewN BW.out _⟩⟩
    · have hltz : ¬ (i : Int) < (xs.length : Int) := by omega
      go_wp2
      go_ret
      exact ⟨rfl, BW.out⟩
end Go.Proofs.Ytdbeochifofdoaa.X
end

section
/-! verditerref01.KeptWeighings. -/
namespace Go.Proofs.Ytdbeochifofdoaa.X
open Go.RowKit Go.Proofs.YtdbeochifofdoaaW.PrintWords Go.Proofs.YtdbeochifofdoaaW.PrintLast Go.Proofs.YtdbeochifofdoaaW.PrintMore
set_option linter.unusedVariables false
set_option linter.unusedSimpArgs false

set_option maxHeartbeats 4000000 in
set_option maxRecDepth 100000 in
theorem keptW_calls (A0 : Option Addr) (c0 : Nat) (A : Option Addr) (n : Nat) (ys : List S53) (w : World) (hO : Kd.C k53 w A0 ys.length ys) (hF : FullW w A ys) (hn : n ≤ ys.length) :
    Calls Try.prog 19 #[.slice A0 ys.length c0, .slice A n ys.length] w fun e w' => e = .returned (.bool true) ∧ Below w.heap.size w w' := by
  have HF := Aside0.mk hF
  have HO := Aside0.mk hO
  have hmx := Kd.C_max hO
  clear hF hO
  go_enter Try.func19, Try.ntmps19
  go_wp2
  go_loopg [5] ys.length (fun gg s wr => ∃ i : Nat, i ≤ ys.length ∧ ys.length - i ≤ gg ∧ s = .int .i64 i ∧ Aside0 (Below w.heap.size w wr))
  case atStart => exact ⟨0, by omega, by omega, rfl, ⟨Below.refl _ _⟩⟩
  case round =>
    obtain ⟨i, hi, hg, rfl, BW⟩ := hrel
    by_cases hil : i < ys.length
    · have hilz : (i : Int) < (ys.length : Int) := by omega
      obtain ⟨ad, Al, nl, Ar, nr, e1, h1, h2, h3, h4, h5, h6⟩ := HF.out i hil
      obtain ⟨od, Bl, cl, Br, cr, e2, g1, g2, g3, g4, g5, g6⟩ := at_T53 HO.out i (by omega) hilz
      subst e1 e2
      simp only [Int.toNat_natCast] at g1 g2 g3 g4 g5 g6
      rw [show rd_T53 ys (i : Int) = ys.getD i z53 from rfl] at g1 g2 g3 g4 g5 g6
      generalize hy : ys.getD i z53 = y at *
      clear hy
      obtain ⟨xl, xr⟩ := y
      dsimp only at h1 h2 h3 h4 h5 h6 g1 g2 g3 g4 g5 g6
      have b1 : (ad.add (i * 2)).block < w.heap.size := World.block_lt_of_cell? w _ h1
      have b3 : (od.add (i * 2)).block < w.heap.size := World.block_lt_of_cell? w _ g1
      have b2 : (⟨(ad.add (i * 2)).block, (ad.add (i * 2)).off + 1, none⟩ : Addr).block < w.heap.size := b1
      have b4 : (⟨(od.add (i * 2)).block, (od.add (i * 2)).off + 1, none⟩ : Addr).block < w.heap.size := b3
      have SK : ∀ W, Below w.heap.size w W → (Below w.heap.size w W ∧ W.cell? (od.add (i * 2)) = some (.slice Bl xl.length cl) ∧ W.cell? ⟨(od.add (i * 2)).block, (od.add (i * 2)).off + 1, none⟩ = some (.slice Br xr.length cr) ∧ W.cell? (ad.add (i * 2)) = some (.slice Al nl xl.length) ∧ W.cell? ⟨(ad.add (i * 2)).block, (ad.add (i * 2)).off + 1, none⟩ = some (.slice Ar nr xr.length)) := fun W hb => ⟨hb, (hb.cell b3).trans g1, (hb.cell b4).trans g2, (hb.cell b1).trans h1, (hb.cell b2).trans h2⟩
      have SK0 := SK _ (below_drew1 BW.out)
      have CL : Aside0 (∀ W, Below w.heap.size w W → Calls Try.prog 35 #[.slice Bl xl.length cl, .slice Al nl xl.length] W fun e w' => e = .returned (.bool true) ∧ Below w.heap.size w w') :=
        ⟨fun W hW => (keptInts_calls Bl cl Al nl xl W (Kd.C_below g4 hW) (Kd.C_below h5 hW) h3).mono (fun e w' h => ⟨h.1, hW.trans (h.2.mono hW.size)⟩)⟩
      have CR : Aside0 (∀ W, Below w.heap.size w W → Calls Try.prog 35 #[.slice Br xr.length cr, .slice Ar nr xr.length] W fun e w' => e = .returned (.bool true) ∧ Below w.heap.size w w') :=
        ⟨fun W hW => (keptInts_calls Br cr Ar nr xr W (Kd.C_below g6 hW) (Kd.C_below h6 hW) h4).mono (fun e w' h => ⟨h.1, hW.trans (h.2.mono hW.size)⟩)⟩
      clear h5 h6 g3 g4 g5 g6
      obtain ⟨_, k1, k2, k3, k4⟩ := SK _ BW.out
      clear h1 h2 g1 g2
      go_wp2
      go_region_held3 (fun W => Below w.heap.size w W ∧ W.cell? (od.add (i * 2)) = some (.slice Bl xl.length cl) ∧ W.cell? ⟨(od.add (i * 2)).block, (od.add (i * 2)).off + 1, none⟩ = some (.slice Br xr.length cr) ∧ W.cell? (ad.add (i * 2)) = some (.slice Al nl xl.length) ∧ W.cell? ⟨(ad.add (i * 2)).block, (ad.add (i * 2)).off + 1, none⟩ = some (.slice Ar nr xr.length)) ((first | with_reducible assumption | exact SK0 | exact SK _ hS2 | exact SK _ hS1 | fail)) (first | (go_at_call 35; with_reducible refine (CL.out _ ?_).mono ?_; (first | with_reducible assumption | exact SK0.1); rintro e w1 ⟨rfl, hS1⟩) | (go_at_call 35; with_reducible refine (CR.out _ ?_).mono ?_; (first | with_reducible assumption | exact hS1); rintro e w2 ⟨rfl, hS2⟩))
      go_wp2
      go_roundg (ys.length - (i + 1))
      case measure => omega
      case rel => exact ⟨i + 1, by omega, by omega, by go_num, ⟨hS2⟩⟩
    · have hilz : ¬ (i : Int) < (ys.length : Int) := by omega
      go_wp2
      go_ret
      exact ⟨rfl, BW.out⟩
end Go.Proofs.Ytdbeochifofdoaa.X
end

section
/-! The law WeighTells: own := KeepWeighings(plan); weighTells(lots, plan) && KeptWeighings(own, plan). -/
namespace Go.Proofs.Ytdbeochifofdoaa.X
open Go.RowKit Go.Proofs.YtdbeochifofdoaaW.PrintWords Go.Proofs.YtdbeochifofdoaaW.PrintLast Go.Proofs.YtdbeochifofdoaaW.PrintMore
set_option linter.unusedVariables false
set_option linter.unusedSimpArgs false

set_option maxHeartbeats 4000000 in
set_option maxRecDepth 100000 in
theorem weighTells_calls (k : Nat) (a0 : Int) (A : Option Addr) (l : List S53) (ys : List S53) (w : World) (hl : Kd.C k53 w A l.length l) (hc : l.length ≤ ys.length) (hF : FullW w A ys) (hn : ys.length ≤ 2932031007402)
    (hs : ∀ y, y ∈ ys → y.f0.length ≤ 17592186044416 ∧ y.f1.length ≤ 17592186044416) (h : verditerlaw06_weighTells.f k a0 l = some true) :
    Calls Try.prog 3 #[.int .i64 a0, .slice A l.length ys.length] w fun e w' => e = .returned (.bool true) ∧ Below w.heap.size w w' := by
  have HL := Aside0.mk hl
  have HF := Aside0.mk hF
  have HS := Aside0.mk hs
  have H := Aside0.mk h
  clear hl hF hs h
  go_enter Try.func3, Try.ntmps3
  go_wp2_with fail
  refine (keepW_calls A l.length ys w HF.out hc hn HS.out).mono ?_
  rintro e w1 ⟨v, rfl, hN, hB1⟩
  obtain ⟨Ao, co, rfl⟩ := Kd.N_slice hN
  have HO := Aside0.mk (Kd.N_reads' hN).2.2
  have HB1 := Aside0.mk hB1
  clear hN hB1
  go_wp2_with fail
  refine (verditerlaw06_weighTells.calls k a0 A ys.length l true _ (Kd.C_below HL.out HB1.out) hc H.out).mono ?_
  rintro e w2 ⟨rfl, hB2⟩
  have HB2 := Aside0.mk hB2
  have HB := Aside0.mk (HB1.out.trans (hB2.mono HB1.out.size))
  clear hB2
  go_wp2_with fail
  refine (keptW_calls Ao co A l.length ys _ (Kd.C_below HO.out HB2.out) (HF.out.below HB.out) hc).mono ?_
  rintro e w3 ⟨rfl, hB3⟩
  have HB3 := Aside0.mk (HB.out.trans (hB3.mono HB.out.size))
  clear hB3
  go_wp2
  go_ret
  exact ⟨rfl, HB3.out⟩
end Go.Proofs.Ytdbeochifofdoaa.X
end

section
/-! A plan that comes in: what its cells hold, up to its length and up to its capacity. -/
namespace Go.Proofs.Ytdbeochifofdoaa.X
open Go.ChangeShapes Go.WideShapes Go.RowKit Go.Proofs.YtdbeochifofdoaaW.PrintWords Go.Proofs.YtdbeochifofdoaaW.PrintLast Go.Proofs.YtdbeochifofdoaaW.PrintMore
set_option linter.unusedVariables false
set_option linter.unusedSimpArgs false

theorem list_of {α : Type} (d : α) (n : Nat) (P : Nat → α → Prop) (h : ∀ i, i < n → ∃ y, P i y) : ∃ ys : List α, ys.length = n ∧ ∀ i, i < n → P i (ys.getD i d) := by
  classical
  refine ⟨(List.range n).map (fun i => if h' : i < n then (h i h').choose else d), by simp, fun i hi => ?_⟩
  have : ((List.range n).map (fun i => if h' : i < n then (h i h').choose else d)).getD i d = (h i hi).choose := by simp [List.getD_eq_getElem?_getD, hi]
  rw [this]
  exact (h i hi).choose_spec
theorem C_take {α : Type} {d : Kd α} {w : World} {A : Option Addr} {n : Nat} {xs : List α} (h : d.C w A n xs) (m : Nat) (hm : m ≤ n) : d.C w A m (xs.take m) := by
  obtain ⟨h1, h2, h3⟩ := h
  refine ⟨by rw [List.length_take]; omega, by omega, fun h0 => ?_⟩
  obtain ⟨ad, e, hc⟩ := h3 (by omega)
  refine ⟨ad, e, fun j p hj => hc j p ?_⟩
  rw [List.getElem?_take] at hj
  split at hj
  · exact hj
  · cases hj
theorem weights_mem_all {H : Type} {P : Program} {t : TypeId} : ∀ {ds : List (DataW H)} {d : DataW H}, d ∈ ds → ∀ n ∈ d.weights P t, n ∈ DataW.weightsAll P t ds
  | d0 :: ds, d, hd, n, hn => by
    rw [DataW.weightsAll, List.mem_append]
    rcases List.mem_cons.1 hd with rfl | hd
    · exact .inl hn
    · exact .inr (weights_mem_all hd n hn)
  | [], _, hd, _, _ => by cases hd
theorem o_bytes3 : Try.prog.bytesOf 3 = 8 := by kernel_rfl
theorem o_bytes53 : Try.prog.bytesOf 53 = 48 := by kernel_rfl
theorem o_cells3 : Try.prog.cellsOf 3 = 1 := by kernel_rfl
theorem o_cells43 : Try.prog.cellsOf 43 = 1 := by kernel_rfl
theorem o_cells53 : Try.prog.cellsOf 53 = 2 := by kernel_rfl
/-- A list of numbers that comes in. -/
theorem open_intsK {H : Type} {enc : TypeId × Value → H} {W : World} {t : TypeId} {fuel : Nat} {cs : List Value} {x : DataW H × List MemPlace} (ht : Try.prog.underlying t = some (.slice 3))
    (h : DataW.trod enc Try.prog W 0 (fun _ => true) true fuel t cs = some x) (hsz : ∀ n ∈ x.1.weights Try.prog t, n ≤ reachBytes) :
    ∃ (A : Option Addr) (n : Nat) (ys : List Int), cs = [.slice A n ys.length] ∧ n ≤ ys.length ∧ ys.length ≤ 17592186044416 ∧ Kd.C (Kd.int .i64) W A ys.length ys ∧ ∀ z, z ∈ ys → (Lit.int .i64 z).wf = true := by
  rcases open_ints ht Try.underlying3 o_cells3 h with ⟨rfl, rfl⟩ | ⟨a, len, cap, zs, rfl, _, hl, hm, hz, rfl, hcell, hwz⟩
  · exact ⟨none, 0, [], rfl, Nat.le_refl _, by simp, ⟨rfl, by simp, fun h => absurd h (by simp)⟩, fun z hz => by cases hz⟩
  · rw [if_pos rfl] at hz
    subst hz
    have hw : zs.length * 8 ≤ reachBytes := by
      have := hsz ((lits (H := H) .i64 (zs.take len) ++ lits (H := H) .i64 (zs.drop len)).length * Try.prog.bytesOf 3) (by simp [DataW.weights, ht])
      rw [o_bytes3] at this
      simpa [lits, Nat.min_eq_left hl, Nat.add_sub_cancel' hl] using this
    unfold reachBytes at hw
    refine ⟨some a, len, zs, rfl, hl, by omega, Kd.C_of_reads (d := (0 : Int)) (h1 := fun _ => rfl) ⟨rfl, by omega, fun _ => ⟨a, rfl, fun j hj => hcell j hj⟩⟩, fun z hz => ?_⟩
    exact hwz z hz
/-- One weighing that comes in, and its lists' lengths. -/
structure PlanAt (W : World) (a : Addr) (z : S53 × Nat × Nat) : Prop where
  at_ : ∃ Al Ar, W.cell? a = some (.slice Al z.2.1 z.1.f0.length) ∧ W.cell? ⟨a.block, a.off + 1, none⟩ = some (.slice Ar z.2.2 z.1.f1.length) ∧ Kd.C (Kd.int .i64) W Al z.1.f0.length z.1.f0 ∧ Kd.C (Kd.int .i64) W Ar z.1.f1.length z.1.f1
  nl : z.2.1 ≤ z.1.f0.length
  nr : z.2.2 ≤ z.1.f1.length
  bl : z.1.f0.length ≤ 17592186044416
  br : z.1.f1.length ≤ 17592186044416
  il : ∀ x, x ∈ z.1.f0 → (Lit.int .i64 x).wf = true
  ir : ∀ x, x ∈ z.1.f1 → (Lit.int .i64 x).wf = true
theorem o_underlying43 : Try.prog.underlying 43 = some (.slice 3) := by kernel_rfl
theorem o_two_of {α : Type} {l : List α} (h : l.length = 2) : ∃ a b, l = [a, b] := by
  match l, h with
  | [a, b], _ => exact ⟨a, b, rfl⟩
theorem open_weighing {H : Type} {enc : TypeId × Value → H} {W : World} {a : Addr} {fuel : Nat} {cs : List Value} {x : DataW H × List MemPlace} (hc : W.cells? 0 a 2 = some cs)
    (h : DataW.trod enc Try.prog W 0 (fun _ => true) true fuel 53 cs = some x) (hsz : ∀ n ∈ x.1.weights Try.prog 53, n ≤ reachBytes) : ∃ z, PlanAt W a z := by
  obtain ⟨xs, n, _, rfl, hcs, hxs, hf⟩ := DataW.trod_struct Try.underlying53 h
  obtain ⟨_, h2, hcell⟩ := World.cells?_some hc
  obtain ⟨c0, c1, rfl⟩ : ∃ c0 c1, cs = [c0, c1] := o_two_of h2
  obtain ⟨x0, x1, rfl⟩ : ∃ c0 c1, xs = [c0, c1] := o_two_of hxs
  have e0 := hf 0 ⟨"Left", 43, 0, false, "", "", 0⟩ rfl
  have e1 := hf 1 ⟨"Right", 43, 1, false, "", "", 24⟩ rfl
  rw [o_cells43] at e0 e1
  simp only [DataW.weights, Try.underlying53, List.map_cons, List.map_nil, DataW.weightsEach, List.append_nil, List.mem_append] at hsz
  obtain ⟨A0, n0, ys0, q0, l0, b0, C0, i0⟩ := open_intsK o_underlying43 e0 (fun m hm => hsz m (.inl hm))
  obtain ⟨A1, n1, ys1, q1, l1, b1, C1, i1⟩ := open_intsK o_underlying43 e1 (fun m hm => hsz m (.inr hm))
  obtain rfl : c0 = .slice A0 n0 ys0.length := by simpa using q0
  obtain rfl : c1 = .slice A1 n1 ys1.length := by simpa using q1
  have k0 := hcell 0 (by omega)
  have k1 := hcell 1 (by omega)
  refine ⟨(⟨ys0, ys1⟩, n0, n1), ⟨A0, A1, ?_, ?_, C0, C1⟩, l0, l1, b0, b1, i0, i1⟩
  · simpa [Addr.add] using k0
  · simpa [Addr.add] using k1
theorem open_plan {H : Type} {enc : TypeId × Value → H} {W : World} {v : Value} {d : DataW H} {ps : List MemPlace} (h : DataW.Trod enc Try.prog W 0 (fun _ => true) true 22 v d ps) (hv : v.cells = #[v])
    (hsz : ∀ n ∈ d.weights Try.prog 22, n ≤ reachBytes) :
    ∃ (A : Option Addr) (l ys : List S53), v = .slice A l.length ys.length ∧ l.length ≤ ys.length ∧ ys.length ≤ 2932031007402 ∧ Kd.C k53 W A l.length l ∧ FullW W A ys ∧
      (∀ y, y ∈ ys → y.f0.length ≤ 17592186044416 ∧ y.f1.length ≤ 17592186044416) ∧ (∀ y, y ∈ l → (∀ x, x ∈ y.f0 → (Lit.int .i64 x).wf = true) ∧ (∀ x, x ∈ y.f1 → (Lit.int .i64 x).wf = true) ∧ y.f0.length ≤ 17592186044416 ∧ y.f1.length ≤ 17592186044416) := by
  obtain ⟨fuel, hf⟩ := h
  rw [hv] at hf
  rcases DataW.trod_slice Try.underlying22 hf with ⟨hcs, _⟩ | ⟨a, len, cap, elems, rest, n, _, hcs, hx, _, hl, hm, hlen, hel, hsp, _⟩
  · obtain rfl : v = .slice none 0 0 := by simpa using hcs
    exact ⟨none, [], [], rfl, Nat.le_refl _, by simp, ⟨rfl, by simp, fun h => absurd h (by simp)⟩, fun i hi => absurd hi (by simp), fun y hy => (by cases hy), fun y hy => (by cases hy)⟩
  obtain rfl : v = .slice (some a) len cap := by simpa using hcs
  obtain ⟨hrl, hre⟩ := hsp rfl
  obtain ⟨rfl, _⟩ := Prod.mk.inj hx
  simp only [DataW.weights, Try.underlying22, o_bytes53, List.mem_cons, List.mem_append] at hsz
  have hb : (len + (cap - len)) * 48 ≤ reachBytes := by
    have := hsz _ (.inl rfl)
    simpa [hlen, hrl] using this
  unfold reachBytes at hb
  rw [o_cells53] at hel hre
  have each : ∀ i, i < cap → ∃ z, PlanAt W (a.add (i * 2)) z := by
    intro i hi
    by_cases hil : i < len
    · have e := hel i hil
      rw [List.getElem?_eq_getElem (by omega)] at e
      obtain ⟨cs, hc, ht⟩ := Option.bind_eq_some_iff.1 e
      exact open_weighing hc ht (fun m hm => hsz m (.inr (.inl (weights_mem_all (List.mem_map.2 ⟨_, List.getElem_mem _, rfl⟩) m hm))))
    · have e := hre (i - len) (by omega)
      rw [List.getElem?_eq_getElem (by omega), show len + (i - len) = i by omega] at e
      obtain ⟨cs, hc, ht⟩ := Option.bind_eq_some_iff.1 e
      exact open_weighing hc ht (fun m hm => hsz m (.inr (.inr (weights_mem_all (List.mem_map.2 ⟨_, List.getElem_mem _, rfl⟩) m hm))))
  obtain ⟨zs, hzl, hz⟩ := list_of (z53, 0, 0) cap _ each
  have hget : ∀ i, i < cap → (zs.map (·.1)).getD i z53 = (zs.getD i (z53, 0, 0)).1 := by
    intro i hi
    simp [List.getD_eq_getElem?_getD, List.getElem?_map, List.getElem?_eq_getElem (show i < zs.length by omega)]
  have hmem : ∀ z, z ∈ zs → ∃ b, PlanAt W b z := by
    intro z h
    obtain ⟨i, hi, rfl⟩ := List.mem_iff_getElem.1 h
    have := hz i (by omega)
    rw [List.getD_eq_getElem?_getD, List.getElem?_eq_getElem hi] at this
    exact ⟨_, this⟩
  have hl2 : ((zs.take len).map fun z => (⟨z.1.f0.take z.2.1, z.1.f1.take z.2.2⟩ : S53)).length = len := by simp; omega
  have hl3 : (zs.map (·.1)).length = cap := by simp; omega
  refine ⟨some a, (zs.take len).map fun z => ⟨z.1.f0.take z.2.1, z.1.f1.take z.2.2⟩, zs.map (·.1), by rw [hl2, hl3], by omega, by omega, ?_, ?_, ?_, ?_⟩
  · refine ⟨rfl, by omega, fun h0 => ⟨a, rfl, fun j p hj => ?_⟩⟩
    rw [List.getElem?_map, Option.map_eq_some_iff] at hj
    obtain ⟨z, hj, rfl⟩ := hj
    rw [List.getElem?_take] at hj
    split at hj
    rotate_left
    · cases hj
    rename_i hjl
    have hp := hz j (by omega)
    rw [List.getD_eq_getElem?_getD, hj, Option.getD_some] at hp
    obtain ⟨Al, Ar, h0, h1, hC0, hC1⟩ := hp.at_
    have t0 := C_take hC0 _ hp.nl
    have t1 := C_take hC1 _ hp.nr
    have n0 : (z.1.f0.take z.2.1).length = z.2.1 := by rw [List.length_take]; have := hp.nl; omega
    have n1 : (z.1.f1.take z.2.2).length = z.2.2 := by rw [List.length_take]; have := hp.nr; omega
    refine ⟨[.slice Al (z.1.f0.take z.2.1).length z.1.f0.length, .slice Ar (z.1.f1.take z.2.2).length z.1.f1.length], rfl, k53_mk W ⟨z.1.f0.take z.2.1, z.1.f1.take z.2.2⟩ (by rw [n0]; exact hp.nl) (by rw [n0]; exact t0) (by rw [n1]; exact hp.nr) (by rw [n1]; exact t1), ?_⟩
    rw [n0, n1]
    intro i u hu
    match i with
    | 0 =>
      obtain rfl := Option.some.inj hu
      rw [show k53.sz = 2 from rfl, Nat.add_zero]
      exact h0
    | 1 =>
      obtain rfl := Option.some.inj hu
      rw [show k53.sz = 2 from rfl, add_field a (j * 2) 1 (by omega)]
      exact h1
    | i + 2 => cases hu
  · intro i hi
    rw [hl3] at hi
    have hp := hz i hi
    obtain ⟨Al, Ar, h0, h1, hC0, hC1⟩ := hp.at_
    rw [hget i hi]
    exact ⟨a, Al, _, Ar, _, rfl, h0, h1, hp.nl, hp.nr, hC0, hC1⟩
  · intro y hy
    obtain ⟨z, hz, rfl⟩ := List.mem_map.1 hy
    obtain ⟨b, hp⟩ := hmem z hz
    exact ⟨hp.bl, hp.br⟩
  · intro y hy
    obtain ⟨z, hz, rfl⟩ := List.mem_map.1 hy
    obtain ⟨b, hp⟩ := hmem z (List.mem_of_mem_take hz)
    have := hp.bl
    have := hp.br
    exact ⟨fun x hx => hp.il x (List.mem_of_mem_take hx), fun x hx => hp.ir x (List.mem_of_mem_take hx), by rw [List.length_take]; omega, by rw [List.length_take]; omega⟩
end Go.Proofs.Ytdbeochifofdoaa.X
end

section
/-! What the document's small functions come to. -/
namespace Go.Proofs.Ytdbeochifofdoaa.X
open Go.RowKit Go.Proofs.YtdbeochifofdoaaW.PrintWords Go.Proofs.YtdbeochifofdoaaW.PrintLast
set_option linter.unusedVariables false
set_option linter.unusedSimpArgs false

theorem wrs (i : Nat) (h : i < 9223372036854775807) : wrap64 ((i : Int) + 1) = ((i + 1 : Nat) : Int) := by rw [wr1 (by omega) (by omega)]; omega

theorem has_l0 (l : List Int) (x : Int) (hl : l.length < 9223372036854775807) : ∀ (d k i : Nat), i ≤ l.length → l.length - i = d → d < k → verditerref06_has.l0 k l x i = some ((l.drop i).contains x)
  | 0, k + 1, i, h1, h2, _ => by
    unfold verditerref06_has.l0
    rw [if_neg (by omega), List.drop_eq_nil_of_le (by omega)]
    rfl
  | d + 1, k + 1, i, h1, h2, h3 => by
    unfold verditerref06_has.l0
    rw [if_pos (by omega), if_pos (by omega), rd_nat, dropD 0 l i (by omega), List.contains_cons, wrs i (by omega)]
    have ih := has_l0 l x hl d k (i + 1) (by omega) (by omega) (by omega)
    by_cases hx : l.getD i 0 = x
    · rw [if_pos hx, hx]; simp
    · have hbe : (x == l.getD i 0) = false := by rw [beq_eq_false_iff_ne]; exact fun e => hx e.symm
      rw [if_neg hx, ih, hbe, Bool.false_or]
theorem has_f (l : List Int) (x : Int) (k : Nat) (hl : l.length < 9223372036854775807) (hk : l.length < k) : verditerref06_has.f k l x = some (l.contains x) := by
  unfold verditerref06_has.f
  exact (has_l0 l x hl l.length k 0 (by omega) (by omega) hk).trans (by simp)

/-- The document's mark of a lot. -/
def markOf (x : Int) (y : S53) : Int := if y.f1.contains x then -1 else if y.f0.contains x then 1 else 0
def refMark (l : List S53) (x : Int) : List Int := l.map (markOf x)
theorem mark_l0 (l : List S53) (x : Int) (hl : l.length < 17592186044416) (hs : ∀ y, y ∈ l → y.f0.length ≤ 50 ∧ y.f1.length ≤ 50) :
    ∀ (d k i : Nat) (acc : List Int), i ≤ l.length → l.length - i = d → acc.length = i → d + 51 < k → verditerref06_mark.l0 k l x acc i = some (acc ++ refMark (l.drop i) x)
  | 0, k + 1, i, acc, h1, h2, _, _ => by
    unfold verditerref06_mark.l0
    rw [if_neg (by omega), List.drop_eq_nil_of_le (by omega)]
    simp [refMark]
  | d + 1, k + 1, i, acc, h1, h2, h3, h4 => by
    unfold verditerref06_mark.l0
    have hb := hs _ (mem_getD z53 l i (by omega))
    have hr : refMark (l.drop i) x = markOf x (l.getD i z53) :: refMark (l.drop (i + 1)) x := by rw [dropD z53 l i (by omega)]; rfl
    have ih := fun v => mark_l0 l x hl hs d k (i + 1) (acc ++ [v]) (by omega) (by omega) (by simp [h3]) (by omega)
    rw [if_pos (by omega), if_pos (by omega), show rd_T53 l (i : Int) = l.getD i z53 from rfl, has_f _ x k (by omega) (by omega), has_f _ x k (by omega) (by omega), wrs i (by omega), hr]
    simp only [Option.bind_some, if_pos (show acc.length < 17592186044416 by omega), ih]
    unfold markOf
    cases (l.getD i z53).f0.contains x <;> cases (l.getD i z53).f1.contains x <;> simp
theorem mark_f (l : List S53) (x : Int) (k : Nat) (hl : l.length < 17592186044416) (hs : ∀ y, y ∈ l → y.f0.length ≤ 50 ∧ y.f1.length ≤ 50) (hk : l.length + 51 < k) : verditerref06_mark.f k l x = some (refMark l x) := by
  unfold verditerref06_mark.f
  exact (mark_l0 l x hl hs l.length k 0 [] (by omega) (by omega) rfl hk).trans (by simp)

theorem times_l0 (l : List Int) (x : Int) (hl : l.length < 17592186044416) :
    ∀ (d k i : Nat) (acc : List Int), i ≤ l.length → l.length - i = d → acc.length = i → d < k → verditerref06_times.l0 k l x acc i = some (acc ++ (l.drop i).map fun y => wrap64 (x * y))
  | 0, k + 1, i, acc, h1, h2, _, _ => by
    unfold verditerref06_times.l0
    rw [if_neg (by omega), List.drop_eq_nil_of_le (by omega)]
    simp
  | d + 1, k + 1, i, acc, h1, h2, h3, h4 => by
    unfold verditerref06_times.l0
    have ih := times_l0 l x hl d k (i + 1) (acc ++ [wrap64 (x * l.getD i 0)]) (by omega) (by omega) (by simp [h3]) (by omega)
    rw [if_pos (by omega), if_pos (by omega), if_pos (show acc.length < 17592186044416 by omega), rd_nat, wrs i (by omega), ih, dropD 0 l i (by omega)]
    simp
theorem times_f (l : List Int) (x : Int) (k : Nat) (hl : l.length < 17592186044416) (hk : l.length < k) : verditerref06_times.f k l x = some (l.map fun y => wrap64 (x * y)) := by
  unfold verditerref06_times.f
  exact (times_l0 l x hl l.length k 0 [] (by omega) (by omega) rfl hk).trans (by simp)
theorem isBlank_l0 (l : List Int) (hl : l.length < 9223372036854775807) : ∀ (d k i : Nat), i ≤ l.length → l.length - i = d → d < k → verditerref06_isBlank.l0 k l i = some ((l.drop i).all (· == 0))
  | 0, k + 1, i, h1, h2, _ => by
    unfold verditerref06_isBlank.l0
    rw [if_neg (by omega), List.drop_eq_nil_of_le (by omega)]
    rfl
  | d + 1, k + 1, i, h1, h2, h3 => by
    unfold verditerref06_isBlank.l0
    rw [if_pos (by omega), if_pos (by omega), rd_nat, dropD 0 l i (by omega), List.all_cons, wrs i (by omega)]
    have ih := isBlank_l0 l hl d k (i + 1) (by omega) (by omega) (by omega)
    by_cases hx : l.getD i 0 = 0
    · rw [if_pos hx, hx, ih]; rfl
    · have hbe : (l.getD i 0 == 0) = false := by rw [beq_eq_false_iff_ne]; exact hx
      rw [if_neg hx, hbe]
      rfl
theorem isBlank_f (l : List Int) (k : Nat) (hl : l.length < 9223372036854775807) (hk : l.length < k) : verditerref06_isBlank.f k l = some (l.all (· == 0)) := by
  unfold verditerref06_isBlank.f
  exact (isBlank_l0 l hl l.length k 0 (by omega) (by omega) hk).trans (by simp)
theorem same_l0 (l m : List Int) (hl : l.length < 9223372036854775807) (he : l.length = m.length) : ∀ (d k i : Nat), i ≤ l.length → l.length - i = d → d < k → verditerref06_SameInts.l0 k l m i = some (l.drop i == m.drop i)
  | 0, k + 1, i, h1, h2, _ => by
    unfold verditerref06_SameInts.l0
    rw [if_neg (by omega), List.drop_eq_nil_of_le (by omega), List.drop_eq_nil_of_le (by omega)]
    rfl
  | d + 1, k + 1, i, h1, h2, h3 => by
    unfold verditerref06_SameInts.l0
    rw [if_pos (by omega), if_pos (by omega), if_pos (by omega), rd_nat, rd_nat, dropD 0 l i (by omega), dropD 0 m i (by omega), List.cons_beq_cons, wrs i (by omega)]
    have ih := same_l0 l m hl he d k (i + 1) (by omega) (by omega) (by omega)
    by_cases hx : l.getD i 0 = m.getD i 0
    · have hbe : (l.getD i 0 == m.getD i 0) = true := by rw [beq_iff_eq]; exact hx
      rw [if_pos hx, ih, hbe, Bool.true_and]
    · have hbe : (l.getD i 0 == m.getD i 0) = false := by rw [beq_eq_false_iff_ne]; exact hx
      rw [if_neg hx, hbe]
      rfl
theorem same_f (l m : List Int) (k : Nat) (hl : l.length < 9223372036854775807) (hk : l.length < k) : verditerref06_SameInts.f k l m = some (l == m) := by
  unfold verditerref06_SameInts.f
  by_cases he : l.length = m.length
  · rw [if_pos (by omega)]
    exact (same_l0 l m hl he l.length k 0 (by omega) (by omega) hk).trans (by simp)
  · rw [if_neg (by omega)]
    have : (l == m) = false := by rw [beq_eq_false_iff_ne]; exact fun e => he (by rw [e])
    rw [this]
end Go.Proofs.Ytdbeochifofdoaa.X
end

section
/-! The document's Validate is the program's. -/
namespace Go.Proofs.Ytdbeochifofdoaa.X
open Go.RowKit Go.Proofs.YtdbeochifofdoaaW.PrintWords Go.Proofs.YtdbeochifofdoaaW.PrintLast
set_option linter.unusedVariables false
set_option linter.unusedSimpArgs false

theorem val_l1 (lots : Int) (l : List S53) (i : Nat) (hi : i < l.length) (hm : l.length < 9223372036854775807) (hs : ∀ y, y ∈ l → y.f0.length ≤ 50 ∧ y.f1.length ≤ 50) (K : Nat) (r : Int)
    (hc : ∀ k, K ≤ k → verditerref06_Validate.l0 k lots l ((i + 1 : Nat) : Int) = some r) :
    ∀ (d j k : Nat), j ≤ (l.getD i z53).f0.length → (l.getD i z53).f0.length - j = d → K + d + 60 ≤ k →
      verditerref06_Validate.l1 k lots l i j = some (if ((l.getD i z53).f0.drop j).any (fun n => (l.getD i z53).f1.contains n) = true then 6 else if (l.getD i z53).f0.length = (l.getD i z53).f1.length then r else 5)
  | 0, j, k + 1, h1, h2, h3 => by
    unfold verditerref06_Validate.l1
    rw [if_pos (by omega), if_pos (by omega), show rd_T53 l (i : Int) = l.getD i z53 from rfl, if_neg (by omega), List.drop_eq_nil_of_le (by omega), wrs i (by omega), hc k (by omega)]
    by_cases he : (l.getD i z53).f0.length = (l.getD i z53).f1.length
    · rw [if_pos (by omega), List.any_nil, if_neg (by simp), if_pos he]
    · rw [if_neg (by omega), List.any_nil, if_neg (by simp), if_neg he]
  | d + 1, j, k + 1, h1, h2, h3 => by
    have hb := hs _ (mem_getD z53 l i hi)
    unfold verditerref06_Validate.l1
    have ih := val_l1 lots l i hi hm hs K r hc d (j + 1) k (by omega) (by omega) (by omega)
    rw [if_pos (by omega), if_pos (by omega), show rd_T53 l (i : Int) = l.getD i z53 from rfl, if_pos (by omega), if_pos (by omega), rd_nat, has_f _ _ k (by omega) (by omega), wrs j (by omega), ih, dropD 0 (l.getD i z53).f0 j (by omega), List.any_cons, Option.bind_some]
    cases hq : (l.getD i z53).f1.contains ((l.getD i z53).f0.getD j 0) with
    | true => rw [if_pos rfl, Bool.true_or, if_pos rfl]
    | false => rw [if_neg (by simp), Bool.false_or]
theorem val_l0 (lots : Int) (hl : 1 ≤ lots ∧ lots ≤ 13) (l : List S53) (hm : l.length < 9223372036854775807) (hs : ∀ y, y ∈ l → y.f0.length ≤ 50 ∧ y.f1.length ≤ 50) :
    ∀ (d i k : Nat), i ≤ l.length → l.length - i = d → 200 * (d + 1) ≤ k → verditerref06_Validate.l0 k lots l i = some (vErr lots (l.drop i))
  | 0, i, k + 1, h1, h2, h3 => by
    unfold verditerref06_Validate.l0
    rw [if_neg (by omega), List.drop_eq_nil_of_le (by omega)]
    rfl
  | d + 1, i, k + 2, h1, h2, h3 => by
    have hb := hs _ (mem_getD z53 l i (by omega))
    have hv : vErr lots (l.drop i) = if wErr lots (l.getD i z53) = 0 then vErr lots (l.drop (i + 1)) else wErr lots (l.getD i z53) := by rw [dropD z53 l i (by omega)]; rfl
    have hc : ∀ k, 200 * (d + 1) ≤ k → verditerref06_Validate.l0 k lots l ((i + 1 : Nat) : Int) = some (vErr lots (l.drop (i + 1))) := fun k hk => val_l0 lots hl l hm hs d (i + 1) k (by omega) (by omega) hk
    have h1' := val_l1 lots l i (by omega) hm hs (200 * (d + 1)) _ hc (l.getD i z53).f0.length 0 k (by omega) (by omega) (by omega)
    have hj : ∀ b, verditerref06_Validate.j1 (k + 1) lots l i b = if b = true then some 1 else verditerref06_Validate.l1 k lots l i 0 := fun b => by unfold verditerref06_Validate.j1; rfl
    unfold verditerref06_Validate.l0
    rw [if_pos (by omega), if_pos (by omega), show rd_T53 l (i : Int) = l.getD i z53 from rfl]
    simp only [verditerref06_isSet.f, if_pos hl, Option.bind_some, hj]
    rw [show ((0 : Nat) : Int) = 0 from rfl] at h1'
    rw [h1', hv]
    unfold wErr
    cases isSetB lots (l.getD i z53).f0 <;> cases isSetB lots (l.getD i z53).f1 <;> simp <;> (split <;> simp_all)
theorem refValidate_f (lots : Int) (l : List S53) (hm : l.length < 9223372036854775807) (hs : ∀ y, y ∈ l → y.f0.length ≤ 50 ∧ y.f1.length ≤ 50) (k : Nat) (hk : 800 ≤ k) : verditerref06_Validate.f k lots l = some (pErr lots l) := by
  unfold verditerref06_Validate.f pErr
  rw [rwithin_b, Option.bind_some]
  by_cases hl : 1 ≤ lots ∧ lots ≤ 13
  · have hb : (decide (1 ≤ lots) && decide (lots ≤ 13)) = true := by simp [hl]
    rw [if_pos hb, if_pos hl]
    by_cases h3 : 3 < l.length
    · rw [if_pos (by omega), if_pos h3]
    · rw [if_neg (by omega), if_neg h3]
      exact val_l0 lots hl l hm hs l.length 0 k (by omega) (by omega) (by omega)
  · have hb : ¬ (decide (1 ≤ lots) && decide (lots ≤ 13)) = true := by simpa using hl
    rw [if_neg hb, if_neg hl]
end Go.Proofs.Ytdbeochifofdoaa.X
end

section
/-! Long; the document's tells. -/
namespace Go.Proofs.Ytdbeochifofdoaa.X
open Go.RowKit Go.Proofs.YtdbeochifofdoaaW.PrintWords Go.Proofs.YtdbeochifofdoaaW.PrintLast
set_option linter.unusedVariables false
set_option linter.unusedSimpArgs false

/-- Has a weighing a long list? -/
def longW (y : S53) : Bool := decide (50 < y.f0.length) || decide (50 < y.f1.length)
def longB (l : List S53) : Bool := decide (50 < l.length) || l.any longW
theorem long_l0 (l : List S53) (hm : l.length < 9223372036854775807) : ∀ (d k i : Nat), i ≤ l.length → l.length - i = d → d < k → verditerlaw06_Long.l0 k l i = some ((l.drop i).any longW)
  | 0, k + 1, i, h1, h2, _ => by
    unfold verditerlaw06_Long.l0
    rw [if_neg (by omega), List.drop_eq_nil_of_le (by omega)]
    rfl
  | d + 1, k + 1, i, h1, h2, h3 => by
    unfold verditerlaw06_Long.l0
    rw [if_pos (by omega), if_pos (by omega), show rd_T53 l (i : Int) = l.getD i z53 from rfl, dropD z53 l i (by omega), List.any_cons, wrs i (by omega)]
    have ih := long_l0 l hm d k (i + 1) (by omega) (by omega) (by omega)
    generalize l.getD i z53 = y
    unfold longW
    by_cases ha : 50 < y.f0.length
    · rw [if_pos (by omega), decide_eq_true ha]; rfl
    · rw [if_neg (by omega), decide_eq_false ha]
      by_cases hb : 50 < y.f1.length
      · rw [if_pos (by omega), decide_eq_true hb]; rfl
      · rw [if_neg (by omega), decide_eq_false hb, ih]; rfl
theorem long_f (l : List S53) (hm : l.length < 9223372036854775807) (k : Nat) (hk : 51 < k) : verditerlaw06_Long.f k l = some (longB l) := by
  unfold verditerlaw06_Long.f longB
  by_cases h : 50 < l.length
  · rw [if_pos (by omega), decide_eq_true h]; rfl
  · rw [if_neg (by omega), decide_eq_false h]
    exact (long_l0 l hm l.length k 0 (by omega) (by omega) (by omega)).trans (by simp)
theorem long_not {l : List S53} (h : longB l = false) : l.length ≤ 50 ∧ ∀ y, y ∈ l → y.f0.length ≤ 50 ∧ y.f1.length ≤ 50 := by
  unfold longB at h
  rw [Bool.or_eq_false_iff] at h
  refine ⟨by simpa using h.1, fun y hy => ?_⟩
  have := (List.any_eq_false.mp h.2) y hy
  unfold longW at this
  simpa using this

/-- Are the marks of the lots i and j the same, or opposite? -/
def pairB (l : List S53) (i j : Nat) : Bool := (refMark l i == refMark l j) || (refMark l i == (refMark l j).map fun y => wrap64 (-1 * y))
theorem tel_l1 (lots : Int) (l : List S53) (hm : l.length ≤ 3) (hs : ∀ y, y ∈ l → y.f0.length ≤ 50 ∧ y.f1.length ≤ 50) (i : Nat) (hi : i < 9223372036854775807) (K : Nat) (r : Bool)
    (hc : ∀ k, K ≤ k → verditerref06_tells.l0 k lots l ((i + 1 : Nat) : Int) = some r) :
    ∀ (d j k : Nat), i - j = d → j ≤ i → K + d + 60 ≤ k → verditerref06_tells.l1 k lots l i (refMark l i) j = some (if (List.range' j d).any (pairB l i) = true then false else r)
  | 0, j, k + 1, h1, h2, h3 => by
    unfold verditerref06_tells.l1
    rw [if_neg (by omega), wrs i hi, hc k (by omega)]
    rfl
  | d + 1, j, k + 1, h1, h2, h3 => by
    have ih := tel_l1 lots l hm hs i hi K r hc d (j + 1) k (by omega) (by omega) (by omega)
    have hlen : ∀ x, (refMark l x).length ≤ 3 := fun x => by unfold refMark; rw [List.length_map]; exact hm
    unfold verditerref06_tells.l1
    rw [if_pos (by omega), mark_f l _ k (by omega) hs (by omega), Option.bind_some, same_f _ _ k (by have := hlen i; omega) (by have := hlen i; omega), Option.bind_some, Option.bind_some,
      times_f _ _ k (by have := hlen j; omega) (by have := hlen j; omega), Option.bind_some, same_f _ _ k (by have := hlen i; omega) (by have := hlen i; omega), Option.bind_some, wrs j (by omega), ih, List.range'_succ, List.any_cons]
    unfold pairB
    cases (refMark l i == refMark l j) <;> cases (refMark l i == (refMark l j).map fun y => wrap64 (-1 * y)) <;> simp
/-- Do the lots from i on, d of them, tell? -/
def telB (l : List S53) : Nat → Nat → Bool
  | 0, _ => true
  | d + 1, i => if (refMark l i).all (· == 0) = true then false else if (List.range' 0 i).any (pairB l i) = true then false else telB l d (i + 1)
theorem telB_succ (l : List S53) (d i : Nat) : telB l (d + 1) i = if (refMark l i).all (· == 0) = true then false else if (List.range' 0 i).any (pairB l i) = true then false else telB l d (i + 1) := rfl
theorem tel_l0 (n : Nat) (hn : n ≤ 13) (l : List S53) (hm : l.length ≤ 3) (hs : ∀ y, y ∈ l → y.f0.length ≤ 50 ∧ y.f1.length ≤ 50) :
    ∀ (d i k : Nat), i + d = n → 100 * (d + 1) ≤ k → verditerref06_tells.l0 k n l i = some (telB l d i)
  | 0, i, k + 1, h1, h2 => by
    unfold verditerref06_tells.l0
    rw [if_neg (by omega)]
    rfl
  | d + 1, i, k + 1, h1, h2 => by
    have hlen : (refMark l i).length ≤ 3 := by unfold refMark; rw [List.length_map]; exact hm
    have h := tel_l1 n l hm hs i (by omega) (100 * (d + 1)) (telB l d (i + 1)) (fun k hk => tel_l0 n hn l hm hs d (i + 1) k (by omega) hk) i 0 k (by omega) (by omega) (by omega)
    rw [show ((0 : Nat) : Int) = 0 from rfl] at h
    unfold verditerref06_tells.l0
    rw [if_pos (by omega), mark_f l _ k (by omega) hs (by omega), Option.bind_some, isBlank_f _ k (by omega) (by omega), Option.bind_some, h]
    rw [telB_succ]
    split <;> rfl
theorem refTells_f (lots : Int) (l : List S53) (hm : l.length < 9223372036854775807) (hs : ∀ y, y ∈ l → y.f0.length ≤ 50 ∧ y.f1.length ≤ 50) (k : Nat) (hk : 2000 ≤ k) :
    verditerref06_Tells.f k lots l = some (if pErr lots l = 0 then (telB l lots.toNat 0, 0) else (false, pErr lots l)) := by
  unfold verditerref06_Tells.f
  rw [refValidate_f lots l hm hs k (by omega), Option.bind_some]
  by_cases h : pErr lots l = 0
  · rw [if_pos h, if_pos h]
    have hp : (1 ≤ lots ∧ lots ≤ 13) ∧ l.length ≤ 3 := by
      unfold pErr at h
      split at h
      · rename_i h1
        split at h
        · cases h
        · exact ⟨h1, by omega⟩
      · cases h
    obtain ⟨n, rfl⟩ := Int.eq_ofNat_of_zero_le (show 0 ≤ lots by omega)
    unfold verditerref06_tells.f
    have := tel_l0 n (by omega) l hp.2 hs n 0 k (by omega) (by omega)
    rw [show ((0 : Nat) : Int) = 0 from rfl] at this
    rw [this]
    rfl
  · rw [if_neg h, if_neg h]
end Go.Proofs.Ytdbeochifofdoaa.X
end

section
/-! The program's marks are the document's. -/
namespace Go.Proofs.Ytdbeochifofdoaa.X
open Go.RowKit Go.Proofs.YtdbeochifofdoaaW.PrintWords Go.Proofs.YtdbeochifofdoaaW.PrintLast
set_option linter.unusedVariables false
set_option linter.unusedSimpArgs false

theorem fsetl_at (k : Nat) (v : Int) : ∀ (l : List Int) (f : Nat → Nat → Int) (a b : Nat), (∀ x, x ∈ l → 0 ≤ x) → fsetl k v f l a b = if b = k ∧ l.contains (a : Int) = true then v else f a b
  | [], f, a, b, _ => by simp [fsetl]
  | x :: xs, f, a, b, h => by
    have hx : 0 ≤ x := h x List.mem_cons_self
    rw [fsetl, fsetl_at k v xs _ a b (fun y hy => h y (List.mem_cons_of_mem _ hy)), List.contains_cons]
    by_cases hb : b = k
    · subst hb
      cases hc : xs.contains (a : Int) with
      | true => simp
      | false =>
        unfold upd
        by_cases he : a = x.toNat
        · have h1 : ((a : Int) == x) = true := by rw [beq_iff_eq]; omega
          rw [h1]; simp [he]
        · have h1 : ((a : Int) == x) = false := by rw [beq_eq_false_iff_ne]; omega
          simp [he, h1]
    · simp [hb, upd]
/-- What a weighing writes into the row a. -/
def cellOf (y : S53) (a v : Int) : Int := if y.f1.contains a = true then -1 else if y.f0.contains a = true then 1 else v
theorem marksF_at : ∀ (l : List S53) (f : Nat → Nat → Int) (k a b : Nat), (∀ y, y ∈ l → (∀ x, x ∈ y.f0 → 0 ≤ x) ∧ ∀ x, x ∈ y.f1 → 0 ≤ x) →
    marksF f k l a b = if k ≤ b ∧ b < k + l.length then cellOf (l.getD (b - k) z53) a (f a b) else f a b
  | [], f, k, a, b, _ => by
    rw [if_neg (by rw [List.length_nil]; omega)]
    rfl
  | y :: ys, f, k, a, b, h => by
    have hy := h y List.mem_cons_self
    rw [marksF, marksF_at ys _ (k + 1) a b (fun z hz => h z (List.mem_cons_of_mem _ hz)), fsetl_at k (-1) y.f1 _ a b hy.2, fsetl_at k 1 y.f0 f a b hy.1]
    by_cases hb : b = k
    · subst hb
      rw [if_neg (by omega), if_pos (show b ≤ b ∧ b < b + (y :: ys).length by rw [List.length_cons]; omega), Nat.sub_self, List.getD_cons_zero]
      unfold cellOf
      simp
    · by_cases hr : k + 1 ≤ b ∧ b < k + 1 + ys.length
      · rw [if_pos hr, if_pos (show k ≤ b ∧ b < k + (y :: ys).length by rw [List.length_cons]; omega), show b - k = (b - (k + 1)) + 1 by omega]
        simp [hb, List.getD_cons_succ]
      · rw [if_neg hr, if_neg (show ¬ (k ≤ b ∧ b < k + (y :: ys).length) by rw [List.length_cons]; omega)]
        simp [hb]
end Go.Proofs.Ytdbeochifofdoaa.X
end

section
/-! bad finds nothing just if the plan tells. -/
namespace Go.Proofs.Ytdbeochifofdoaa.X
open Go.RowKit Go.Proofs.YtdbeochifofdoaaW.PrintWords Go.Proofs.YtdbeochifofdoaaW.PrintLast
set_option linter.unusedVariables false
set_option linter.unusedSimpArgs false

/-- A lot's mark, as three numbers. -/
def mk3 (l : List S53) (n : Nat) : S70 := ⟨((refMark l n).getD 0 0), ((refMark l n).getD 1 0), ((refMark l n).getD 2 0)⟩
theorem cellOf_mark (y : S53) (n : Nat) : cellOf y n 0 = markOf n y := rfl
theorem marksF_mk (l : List S53) (hp : ∀ y, y ∈ l → (∀ x, x ∈ y.f0 → 0 ≤ x) ∧ ∀ x, x ∈ y.f1 → 0 ≤ x) (n k : Nat) : marksF (fun _ _ => 0) 0 l n k = (refMark l n).getD k 0 := by
  rw [marksF_at l _ 0 n k hp]
  by_cases h : k < l.length
  · rw [if_pos (by omega), cellOf_mark]
    simp [refMark, List.getD_eq_getElem?_getD, List.getElem?_map, List.getElem?_eq_getElem h]
  · rw [if_neg (by omega)]
    simp [refMark, List.getD_eq_getElem?_getD, List.getElem?_eq_none (by simpa using h : l.length ≤ k)]
theorem marksL_mk (lots : Int) (l : List S53) (hp : ∀ y, y ∈ l → (∀ x, x ∈ y.f0 → 0 ≤ x) ∧ ∀ x, x ∈ y.f1 → 0 ≤ x) : marksL lots l = (List.range lots.toNat).map (mk3 l) := by
  unfold marksL rowsOf mk3
  simp only [marksF_mk l hp]
theorem markOf_small (n : Int) (y : S53) : -1 ≤ markOf n y ∧ markOf n y ≤ 1 := by
  unfold markOf
  split
  · decide
  · split <;> decide
theorem isZ_mk (l : List S53) (n : Nat) (hl : l.length ≤ 3) : isZ (mk3 l n) = (refMark l n).all (· == 0) := by
  match l, hl with
  | [], _ => rfl
  | [a], _ => simp [isZ, mk3, refMark]
  | [a, b], _ => simp [isZ, mk3, refMark]
  | [a, b, c], _ => simp [isZ, mk3, refMark, Bool.and_assoc]
theorem wr_small {v : Int} (h : -1 ≤ v ∧ v ≤ 1) : wrap64 (v * 1) = v ∧ wrap64 (v * -1) = -v ∧ wrap64 (-1 * v) = -v := by
  refine ⟨?_, ?_, ?_⟩
  · rw [Int.mul_one]; exact wr_of (by omega) (by omega)
  · rw [show v * -1 = -v by omega]; exact wr_of (by omega) (by omega)
  · rw [show -1 * v = -v by omega]; exact wr_of (by omega) (by omega)
end Go.Proofs.Ytdbeochifofdoaa.X
end

section
/-! bad finds nothing just if the document's tells. -/
namespace Go.Proofs.Ytdbeochifofdoaa.X
open Go.RowKit Go.Proofs.YtdbeochifofdoaaW.PrintWords Go.Proofs.YtdbeochifofdoaaW.PrintLast
set_option linter.unusedVariables false
set_option linter.unusedSimpArgs false

theorem sm_pos {x y : Int} (hx : -1 ≤ x ∧ x ≤ 1) : (y == wrap64 (x * 1)) = (x == y) := by
  rw [(wr_small hx).1]; exact BEq.comm
theorem sm_neg {x y : Int} (hx : -1 ≤ x ∧ x ≤ 1) (hy : -1 ≤ y ∧ y ≤ 1) : (y == wrap64 (x * -1)) = (x == wrap64 (-1 * y)) := by
  rw [(wr_small hx).2.1, (wr_small hy).2.2]
  rw [Bool.eq_iff_iff, beq_iff_eq, beq_iff_eq]
  omega
theorem eqTim_pos (l : List S53) (hl : l.length ≤ 3) (i j : Nat) : eqTim (mk3 l j) (mk3 l i) 1 = (refMark l i == refMark l j) := by
  have h0 : ((0 : Int) == wrap64 (0 * 1)) = true := by rw [(wr_small (v := 0) (by omega)).1]; rfl
  have hn : (([] : List Int) == []) = true := rfl
  match l, hl with
  | [], _ => simp only [eqTim, mk3, refMark, List.map_nil, List.getD_nil, h0, hn, Bool.and_true]
  | [a], _ => simp only [eqTim, mk3, refMark, List.map_cons, List.map_nil, List.getD_cons_zero, List.getD_cons_succ, List.getD_nil, h0, sm_pos (markOf_small _ _), List.cons_beq_cons, hn, Bool.and_true]
  | [a, b], _ => simp only [eqTim, mk3, refMark, List.map_cons, List.map_nil, List.getD_cons_zero, List.getD_cons_succ, List.getD_nil, h0, sm_pos (markOf_small _ _), List.cons_beq_cons, hn, Bool.and_true]
  | [a, b, c], _ => simp only [eqTim, mk3, refMark, List.map_cons, List.map_nil, List.getD_cons_zero, List.getD_cons_succ, List.getD_nil, h0, sm_pos (markOf_small _ _), List.cons_beq_cons, hn, Bool.and_true]
theorem eqTim_neg (l : List S53) (hl : l.length ≤ 3) (i j : Nat) : eqTim (mk3 l j) (mk3 l i) (-1) = (refMark l i == (refMark l j).map fun y => wrap64 (-1 * y)) := by
  have h0 : ((0 : Int) == wrap64 (0 * -1)) = true := by rw [(wr_small (v := 0) (by omega)).2.1]; rfl
  have hn : (([] : List Int) == []) = true := rfl
  match l, hl with
  | [], _ => simp only [eqTim, mk3, refMark, List.map_nil, List.getD_nil, h0, hn, Bool.and_true]
  | [a], _ => simp only [eqTim, mk3, refMark, List.map_cons, List.map_nil, List.getD_cons_zero, List.getD_cons_succ, List.getD_nil, h0, sm_neg (markOf_small _ _) (markOf_small _ _), List.cons_beq_cons, hn, Bool.and_true]
  | [a, b], _ => simp only [eqTim, mk3, refMark, List.map_cons, List.map_nil, List.getD_cons_zero, List.getD_cons_succ, List.getD_nil, h0, sm_neg (markOf_small _ _) (markOf_small _ _), List.cons_beq_cons, hn, Bool.and_true]
  | [a, b, c], _ => simp only [eqTim, mk3, refMark, List.map_cons, List.map_nil, List.getD_cons_zero, List.getD_cons_succ, List.getD_nil, h0, sm_neg (markOf_small _ _) (markOf_small _ _), List.cons_beq_cons, hn, Bool.and_true]
theorem pair_eq (l : List S53) (hl : l.length ≤ 3) (i j : Nat) : (eqTim (mk3 l j) (mk3 l i) 1 || eqTim (mk3 l j) (mk3 l i) (-1)) = pairB l i j := by
  rw [eqTim_pos l hl, eqTim_neg l hl]; rfl
theorem badJ_none (m : S70) (i : Int) : ∀ (os : List S70) (j : Int), (badJ m i os j).isNone = !(os.any fun o => eqTim o m 1 || eqTim o m (-1))
  | [], _ => rfl
  | o :: os, j => by
    rw [badJ, List.any_cons]
    cases h1 : eqTim o m 1 with
    | true => rfl
    | false =>
      cases h2 : eqTim o m (-1) with
      | true => rfl
      | false =>
        rw [if_neg (by simp), if_neg (by simp), badJ_none m i os]
        rfl
theorem badI_none (l : List S53) (hl : l.length ≤ 3) (n : Nat) : ∀ (d i : Nat), i + d = n →
    (badI ((List.range n).map (mk3 l)) (((List.range n).map (mk3 l)).drop i) i).isNone = telB l d i
  | 0, i, h => by
    rw [List.drop_eq_nil_of_le (by simp; omega)]
    rfl
  | d + 1, i, h => by
    have ih := badI_none l hl n d (i + 1) (by omega)
    have ht : (((List.range n).map (mk3 l)).take i) = (List.range i).map (mk3 l) := by
      rw [← List.map_take, List.take_range, Nat.min_eq_left (by omega)]
    have hd : ((List.range n).map (mk3 l)).drop i = mk3 l i :: ((List.range n).map (mk3 l)).drop (i + 1) := by
      rw [List.drop_eq_getElem_cons (by simp; omega)]
      simp
    have hj : (badJ (mk3 l i) i ((List.range i).map (mk3 l)) 0).isNone = !((List.range' 0 i).any (pairB l i)) := by
      rw [badJ_none, List.any_map, List.range_eq_range']
      congr 2
      funext j
      exact pair_eq l hl i j
    rw [hd, badI, telB_succ, ht, isZ_mk l i hl]
    cases (refMark l i).all (· == 0) with
    | true => rfl
    | false =>
      rw [if_neg (by simp), if_neg (by simp)]
      generalize hq : badJ (mk3 l i) i ((List.range i).map (mk3 l)) 0 = q at *
      cases q with
      | none =>
        have : (List.range' 0 i).any (pairB l i) = false := by simpa using hj
        rw [this, if_neg (by simp)]
        exact ih
      | some v =>
        have : (List.range' 0 i).any (pairB l i) = true := by simpa using hj
        rw [this, if_pos rfl]
        rfl
theorem badOut_some (r : Option (Int × Int × Int × Int)) : (badOut r).2.2.2.2 = !r.isNone := by
  match r with
  | none => rfl
  | some (a, b, c, d) => rfl
theorem okP_pos {lots : Int} {l : List S53} (h : OkP lots l) : ∀ y, y ∈ l → (∀ x, x ∈ y.f0 → 0 ≤ x) ∧ ∀ x, x ∈ y.f1 → 0 ≤ x :=
  fun y hy => ⟨fun x hx => ((h.each y hy).left x hx).1, fun x hx => ((h.each y hy).right x hx).1⟩
theorem badI_tel {lots : Int} {l : List S53} (hp : pErr lots l = 0) : (badI (marksL lots l) (marksL lots l) 0).isNone = telB l lots.toNat 0 := by
  have ok := pErr_ok hp
  rw [marksL_mk lots l (okP_pos ok)]
  have := badI_none l ok.few lots.toNat lots.toNat 0 (by omega)
  simpa using this
theorem bad_tel {lots : Int} {l : List S53} (hp : pErr lots l = 0) : ∃ a b c d, weigh_bad.f lots l = some (a, b, c, d, !telB l lots.toNat 0) := by
  unfold weigh_bad.f
  rw [if_pos hp]
  have hb : (badOut (badI (marksL lots l) (marksL lots l) 0)).2.2.2.2 = !telB l lots.toNat 0 := by rw [badOut_some, badI_tel hp]
  generalize badOut (badI (marksL lots l) (marksL lots l) 0) = r at *
  obtain ⟨a, b, c, d, e⟩ := r
  obtain rfl : e = _ := hb
  exact ⟨a, b, c, d, rfl⟩
theorem Tells_f (lots : Int) (l : List S53) : weigh_Tells.f lots l = some (if pErr lots l = 0 then (telB l lots.toNat 0, 0) else (false, pErr lots l)) := by
  unfold weigh_Tells.f weigh_Validate.f
  rw [Option.bind_some]
  by_cases hp : pErr lots l = 0
  · rw [if_pos hp, if_pos hp]
    obtain ⟨a, b, c, d, h⟩ := bad_tel hp
    rw [h, Option.bind_some, Bool.not_not]
  · rw [if_neg hp, if_neg hp]
end Go.Proofs.Ytdbeochifofdoaa.X
end

section
/-! verditerref06.some. -/
namespace Go.Proofs.Ytdbeochifofdoaa.X
open Go.RowKit Go.Proofs.YtdbeochifofdoaaW.PrintWords Go.Proofs.YtdbeochifofdoaaW.PrintLast Go.Proofs.YtdbeochifofdoaaW.PrintMore
set_option linter.unusedVariables false
set_option linter.unusedSimpArgs false

theorem eqA69 (d : Nat) (w : World) (x0 y0 x1 y1 x2 y2 : Int) :
    (Op.equalIn (d + 2) 69 (.agg #[.int .i64 x0, .int .i64 x1, .int .i64 x2]) (.agg #[.int .i64 y0, .int .i64 y1, .int .i64 y2])).run Try.prog w = .ok (x0 == y0 && (x1 == y1 && (x2 == y2))) w := by
  rw [Op.equalIn]
  simp only [Sem.run_bind, run_underlying Try.underlying69, Result.andThen_ok]
  go_simp
  rw [show List.range' 0 3 = [0, 1, 2] from rfl]
  simp only [List.forIn_cons, List.forIn_nil]
  by_cases h0 : x0 = y0
  rotate_left
  · go_simp
  subst h0
  by_cases h1 : x1 = y1
  rotate_left
  · go_simp
  subst h1
  by_cases h2 : x2 = y2
  rotate_left
  · go_simp
  subst h2
  go_simp

attribute [local go_sem high] eqA69

def zer3 (x y z : Int) : Bool := x == 0 && (y == 0 && z == 0)
def someB : List S69 → Int → Int → Int → Int → Bool
  | [], n, x, y, z => n == 0 && zer3 x y z
  | m :: q, n, x, y, z =>
    if n = 0 then zer3 x y z
    else if (q.length : Int) + 1 < n then false
    else someB q (n - 1) (wrap64 (x - m.f0)) (wrap64 (y - m.f1)) (wrap64 (z - m.f2)) || (someB q (n - 1) (wrap64 (x + m.f0)) (wrap64 (y + m.f1)) (wrap64 (z + m.f2)) || someB q n x y z)
def verditerref06_some.f (l : List S69) (n x y z : Int) : Option Bool := if 0 ≤ n then some (someB l n x y z) else none

/-- A region that draws its order, whose operations and callees leave the worlds in a class. -/
theorem wp_region_quietC {P : Program} {C : World → Prop} {id : Nat} {Q : Exit → Act → World → Prop} {a : Act} {w : World} {l : List Oper} (hm : P.follows .mixedOrders = true) (hB : Region.lexB .any l.toArray = true) (hC : C w.drew)
    (h : wpQuiet P l.toArray C (fun a' => ∀ w', C w' → Q .normal a' w') l a) : (Code.region id l.toArray true).wp P Q a w :=
  wp_region_quiet (C := C) hm hB hC (by simpa using h)
theorem cut87 (ad : Addr) (n c : Nat) (W : World) : (Instr.slice 87 (.slice (some ad) (n + 1) c) (some (.int .i64 1)) none none).run Try.prog W = .ok (.slice (if c = 1 then some ad else Option.map (fun x => x.add (1 * k69.sz)) (some ad)) n (c - 1)) W := by
  have ht := Try.underlying87
  have hel : Try.prog.elem 87 = 69 := by simp [Program.elem, ht]
  have hu : Try.prog.underlying 87 = some (.slice (Try.prog.elem 87)) := by rw [hel]; exact ht
  rw [run_slice_l W 87 (some ad) (n + 1) c hu .i64 1 (by omega) (by omega), hel]
  have hs : k69.sz = 3 := rfl
  have hz : (sizeOf 69).run Try.prog W = .ok 3 W := by kernel_rfl
  simp [hz, sliced, Result.andThen, hs]
/-- What stands while the calls go on. -/
def SomeS (w0 : World) (g : Nat) (A : Option Addr) (q : List S69) (a0 a1 a2 b0 b1 b2 c0 c1 c2 : Int) (W : World) : Prop :=
  W.heap[g]? = some (.cells #[.int .i64 a0, .int .i64 a1, .int .i64 a2] 69 (0, 0)) ∧
  W.heap[g + 2]? = some (.cells #[.int .i64 b0, .int .i64 b1, .int .i64 b2] 69 (0, 0)) ∧
  W.heap[g + 3]? = some (.cells #[.int .i64 c0, .int .i64 c1, .int .i64 c2] 69 (0, 0)) ∧
  Kd.C k69 W A q.length q ∧ Below w0.heap.size w0 W ∧ w0.heap.size ≤ g
theorem SomeS.below {w0 : World} {g : Nat} {A : Option Addr} {q : List S69} {a0 a1 a2 b0 b1 b2 c0 c1 c2 : Int} {W W' : World} (h : SomeS w0 g A q a0 a1 a2 b0 b1 b2 c0 c1 c2 W) (hb : Below W.heap.size W W') : SomeS w0 g A q a0 a1 a2 b0 b1 b2 c0 c1 c2 W' :=
  ⟨blk_below h.1 hb, blk_below h.2.1 hb, blk_below h.2.2.1 hb, Kd.C_below h.2.2.2.1 hb, h.2.2.2.2.1.trans (hb.mono h.2.2.2.2.1.size), h.2.2.2.2.2⟩

theorem SomeS.drew {w0 : World} {g : Nat} {A : Option Addr} {q : List S69} {a0 a1 a2 b0 b1 b2 c0 c1 c2 : Int} {W : World} (h : SomeS w0 g A q a0 a1 a2 b0 b1 b2 c0 c1 c2 W) : SomeS w0 g A q a0 a1 a2 b0 b1 b2 c0 c1 c2 W.drew :=
  ⟨blk_drew h.1, blk_drew h.2.1, blk_drew h.2.2.1, Kd.C_drew h.2.2.2.1, below_drew1 h.2.2.2.2.1, h.2.2.2.2.2⟩
theorem SomeS.drewN {w0 : World} {g : Nat} {A : Option Addr} {q : List S69} {a0 a1 a2 b0 b1 b2 c0 c1 c2 : Int} {W : World} (h : SomeS w0 g A q a0 a1 a2 b0 b1 b2 c0 c1 c2 W) (n : Nat) : SomeS w0 g A q a0 a1 a2 b0 b1 b2 c0 c1 c2 (W.drewN n) :=
  ⟨blk_drewN h.1 n, blk_drewN h.2.1 n, blk_drewN h.2.2.1 n, Kd.C_drewN h.2.2.2.1 n, pw_below_drewN h.2.2.2.2.1 n, h.2.2.2.2.2⟩
theorem some_full {w : World} {g : Nat} {AA : Option Addr} {q : List S69} {x y z a0 a1 a2 b0 b1 b2 : Int} {W : World} (h : SomeS w g AA q x y z a0 a1 a2 b0 b1 b2 W) :
    (fun W => SomeS w g AA q x y z a0 a1 a2 b0 b1 b2 W ∧ W.cell? ⟨g, 0, none⟩ = some (.int .i64 x) ∧ W.cell? ⟨g, 1, none⟩ = some (.int .i64 y) ∧ W.cell? ⟨g, 2, none⟩ = some (.int .i64 z) ∧ W.cell? ⟨g + 2, 0, none⟩ = some (.int .i64 a0) ∧ W.cell? ⟨g + 2, 1, none⟩ = some (.int .i64 a1) ∧ W.cell? ⟨g + 2, 2, none⟩ = some (.int .i64 a2) ∧ W.cell? ⟨g + 3, 0, none⟩ = some (.int .i64 b0) ∧ W.cell? ⟨g + 3, 1, none⟩ = some (.int .i64 b1) ∧ W.cell? ⟨g + 3, 2, none⟩ = some (.int .i64 b2)) W :=
  ⟨h, blk_cell h.1 0, blk_cell h.1 1, blk_cell h.1 2, blk_cell h.2.1 0, blk_cell h.2.1 1, blk_cell h.2.1 2, blk_cell h.2.2.1 0, blk_cell h.2.2.1 1, blk_cell h.2.2.1 2⟩
theorem SomeS.row {w0 : World} {g : Nat} {A : Option Addr} {q : List S69} {a0 a1 a2 b0 b1 b2 c0 c1 c2 : Int} {W : World} (h : SomeS w0 g A q a0 a1 a2 b0 b1 b2 c0 c1 c2 W) : Kd.C k69 W A q.length q := h.2.2.2.1
theorem SomeS.intro {w0 : World} {g : Nat} {A : Option Addr} {q : List S69} {a0 a1 a2 b0 b1 b2 c0 c1 c2 : Int} {W : World} (h : W.heap[g]? = some (.cells #[.int .i64 a0, .int .i64 a1, .int .i64 a2] 69 (0, 0)) ∧  W.heap[g + 2]? = some (.cells #[.int .i64 b0, .int .i64 b1, .int .i64 b2] 69 (0, 0)) ∧ W.heap[g + 3]? = some (.cells #[.int .i64 c0, .int .i64 c1, .int .i64 c2] 69 (0, 0)) ∧ Kd.C k69 W A q.length q ∧ Below w0.heap.size w0 W ∧ w0.heap.size ≤ g) : SomeS w0 g A q a0 a1 a2 b0 b1 b2 c0 c1 c2 W := h
theorem SomeS.bel {w0 : World} {g : Nat} {A : Option Addr} {q : List S69} {a0 a1 a2 b0 b1 b2 c0 c1 c2 : Int} {W : World} (h : SomeS w0 g A q a0 a1 a2 b0 b1 b2 c0 c1 c2 W) : Below w0.heap.size w0 W := h.2.2.2.2.1

attribute [irreducible] SomeS

set_option maxHeartbeats 8000000 in
set_option maxRecDepth 100000 in
theorem some_calls (l : List S69) : ∀ (A : Option Addr) (c : Nat) (n x y z : Int) (w : World) (hr : Kd.C k69 w A l.length l) (hc : l.length ≤ c) (hn : 0 ≤ n),
    Calls Try.prog 83 #[.slice A l.length c, .int .i64 n, .agg #[.int .i64 x, .int .i64 y, .int .i64 z]] w fun e w' => e = .returned (.bool (someB l n x y z)) ∧ Below w.heap.size w w' := by
  induction l with
  | nil =>
    intro A c n x y z w hr hc hn
    by_cases h0 : n = 0
    · subst h0
      go_enter Try.func83, Try.ntmps83
      go_wp2
      go_ret
      exact ⟨by rfl, (Below.refl _ _).alloc (Nat.le_refl _) _⟩
    · have hn1 : 0 < n := by omega
      go_enter Try.func83, Try.ntmps83
      go_wp2
      go_ret
      refine ⟨?_, (Below.refl _ _).alloc (Nat.le_refl _) _⟩
      have : (n == 0) = false := by simpa using h0
      simp [someB, this]
  | cons m q ih =>
    intro A c n x y z w hr hc hn
    have hql : (m :: q).length = q.length + 1 := rfl
    by_cases h0 : n = 0
    · subst h0
      go_enter Try.func83, Try.ntmps83
      go_wp2
      go_ret
      exact ⟨by rfl, (Below.refl _ _).alloc (Nat.le_refl _) _⟩
    · by_cases h1 : (q.length : Int) + 1 < n
      · have h1' : (((m :: q).length : Nat) : Int) < n := by rw [hql]; omega
        go_enter Try.func83, Try.ntmps83
        go_wp2
        go_ret
        refine ⟨?_, (Below.refl _ _).alloc (Nat.le_refl _) _⟩
        rw [someB, if_neg h0, if_pos h1]
        rfl
      · have h1' : ¬ (((m :: q).length : Nat) : Int) < n := by rw [hql]; omega
        have hlm := Kd.C_max hr
        have hne : (n == 0) = false := by simpa using h0
        obtain ⟨a0, ha0⟩ : ∃ v, v = wrap64 (x - m.f0) := ⟨_, rfl⟩
        obtain ⟨a1, ha1⟩ : ∃ v, v = wrap64 (y - m.f1) := ⟨_, rfl⟩
        obtain ⟨a2, ha2⟩ : ∃ v, v = wrap64 (z - m.f2) := ⟨_, rfl⟩
        obtain ⟨b0, hb0⟩ : ∃ v, v = wrap64 (x + m.f0) := ⟨_, rfl⟩
        obtain ⟨b1, hb1⟩ : ∃ v, v = wrap64 (y + m.f1) := ⟨_, rfl⟩
        obtain ⟨b2, hb2⟩ : ∃ v, v = wrap64 (z + m.f2) := ⟨_, rfl⟩
        have HV := Aside0.mk (show someB (m :: q) n x y z = (someB q (n - 1) a0 a1 a2 || (someB q (n - 1) b0 b1 b2 || someB q n x y z)) by rw [someB, if_neg h0, if_neg h1, ha0, ha1, ha2, hb0, hb1, hb2])
        go_enter Try.func83, Try.ntmps83
        go_upto_region 1 with (fail)
        have HX := Aside0.mk (blk_new w (.cells #[.int .i64 x, .int .i64 y, .int .i64 z] 69))
        have HB := Aside0.mk ((Below.refl w.heap.size w).alloc (Nat.le_refl _) (.cells #[.int .i64 x, .int .i64 y, .int .i64 z] 69))
        have HZ := Aside0.mk (show (w.alloc (.cells #[.int .i64 x, .int .i64 y, .int .i64 z] 69)).heap.size = w.heap.size + 1 by simp)
        replace hr := Kd.C_alloc hr (.cells #[.int .i64 x, .int .i64 y, .int .i64 z] 69)
        generalize w.alloc (.cells #[.int .i64 x, .int .i64 y, .int .i64 z] 69) = W1 at *
        obtain ⟨ad, e1, hx0, hx1, hx2⟩ := at_T69 hr 0 (by omega) (by rw [hql]; omega)
        cases e1
        simp only [Int.toNat_zero] at hx0 hx1 hx2
        rw [show rd_T69 (m :: q) 0 = m from rfl, show ad.add (0 * 3) = ad from by cases ad; rfl] at hx0
        rw [show rd_T69 (m :: q) 0 = m from rfl, show ad.add (0 * 3) = ad from by cases ad; rfl] at hx1 hx2
        have HQ := Kd.C_drop (c := c) (m := 1) hr (by rw [hql]; omega) hc
        rw [show (m :: q).drop 1 = q from rfl] at HQ
        replace HQ := Aside0.mk HQ
        clear hr
        obtain ⟨g, hg⟩ : ∃ g, g = w.heap.size := ⟨_, rfl⟩
        rw [← hg] at HX HZ ⊢
        have HG := Aside0.mk hg
        clear hg
        have hx := blk_cell HX.out
        have hX0 := hx 0
        have hX1 := hx 1
        have hX2 := hx 2
        rw [show (#[Value.int .i64 x, .int .i64 y, .int .i64 z] : Array Value)[0]? = some (.int .i64 x) from rfl] at hX0
        rw [show (#[Value.int .i64 x, .int .i64 y, .int .i64 z] : Array Value)[1]? = some (.int .i64 y) from rfl] at hX1
        rw [show (#[Value.int .i64 x, .int .i64 y, .int .i64 z] : Array Value)[2]? = some (.int .i64 z) from rfl] at hX2
        clear hx
        go_upto_region 6 with (fail)
        have HX2 := Aside0.mk (blk_alloc HX.out (.cells #[.int .i64 m.f0, .int .i64 m.f1, .int .i64 m.f2] 69))
        have HM2 := Aside0.mk (blk_new W1 (.cells #[.int .i64 m.f0, .int .i64 m.f1, .int .i64 m.f2] 69))
        have HB2 := Aside0.mk (HB.out.alloc HB.out.size (.cells #[.int .i64 m.f0, .int .i64 m.f1, .int .i64 m.f2] 69))
        have HZ2 := Aside0.mk (show (W1.alloc (.cells #[.int .i64 m.f0, .int .i64 m.f1, .int .i64 m.f2] 69)).heap.size = g + 2 by simp; exact HZ.out)
        have HQ2 := Aside0.mk (Kd.C_alloc HQ.out (.cells #[.int .i64 m.f0, .int .i64 m.f1, .int .i64 m.f2] 69))
        generalize W1.alloc (.cells #[.int .i64 m.f0, .int .i64 m.f1, .int .i64 m.f2] 69) = W2 at *
        have hz1 := HZ.out
        rw [hz1] at HM2 ⊢
        clear hX0 hX1 hX2 hx0 hx1 hx2 hz1 HX HB HQ HZ
        have hx := blk_cell HX2.out
        have hX0 := hx 0
        have hX1 := hx 1
        have hX2 := hx 2
        rw [show (#[Value.int .i64 x, .int .i64 y, .int .i64 z] : Array Value)[0]? = some (.int .i64 x) from rfl] at hX0
        rw [show (#[Value.int .i64 x, .int .i64 y, .int .i64 z] : Array Value)[1]? = some (.int .i64 y) from rfl] at hX1
        rw [show (#[Value.int .i64 x, .int .i64 y, .int .i64 z] : Array Value)[2]? = some (.int .i64 z) from rfl] at hX2
        clear hx
        have hx := blk_cell HM2.out
        have hM0 := hx 0
        have hM1 := hx 1
        have hM2 := hx 2
        rw [show (#[Value.int .i64 m.f0, .int .i64 m.f1, .int .i64 m.f2] : Array Value)[0]? = some (.int .i64 m.f0) from rfl] at hM0
        rw [show (#[Value.int .i64 m.f0, .int .i64 m.f1, .int .i64 m.f2] : Array Value)[1]? = some (.int .i64 m.f1) from rfl] at hM1
        rw [show (#[Value.int .i64 m.f0, .int .i64 m.f1, .int .i64 m.f2] : Array Value)[2]? = some (.int .i64 m.f2) from rfl] at hM2
        clear hx
        have hg0 : g < W2.heap.size := by have := HZ2.out; omega
        have hg1 : g + 1 < W2.heap.size := by have := HZ2.out; omega
        go_upto_region 8 with (fail)
        simp only [← ha0, ← ha1, ← ha2, ← hb0, ← hb1, ← hb2]
        clear ha0 ha1 ha2 hb0 hb1 hb2 hX0 hX1 hX2 hM0 hM1 hM2 HM2
        have hS : SomeS w g (if c = 1 then some ad else Option.map (fun x => x.add (1 * k69.sz)) (some ad)) q x y z a0 a1 a2 b0 b1 b2 ((W2.alloc (.cells #[.int .i64 a0, .int .i64 a1, .int .i64 a2] 69)).alloc (.cells #[.int .i64 b0, .int .i64 b1, .int .i64 b2] 69)) := by
          have e2 := HZ2.out
          refine SomeS.intro ⟨blk_alloc (blk_alloc HX2.out _) _, ?_, ?_, Kd.C_alloc (Kd.C_alloc HQ2.out _) _, (HB2.out.alloc HB2.out.size _).alloc (by simp; have := HB2.out.size; omega) _, by have := HG.out; omega⟩
          · have := blk_alloc (blk_new W2 (.cells #[.int .i64 a0, .int .i64 a1, .int .i64 a2] 69)) (.cells #[.int .i64 b0, .int .i64 b1, .int .i64 b2] 69)
            rw [e2] at this
            exact this
          · have := blk_new (W2.alloc (.cells #[.int .i64 a0, .int .i64 a1, .int .i64 a2] 69)) (.cells #[.int .i64 b0, .int .i64 b1, .int .i64 b2] 69)
            rw [show (W2.alloc (.cells #[.int .i64 a0, .int .i64 a1, .int .i64 a2] 69)).heap.size = g + 3 by simp; omega] at this
            exact this
        rw [HZ2.out]
        rw [show g + 2 + 1 = g + 3 from rfl]
        generalize ((W2.alloc (.cells #[.int .i64 a0, .int .i64 a1, .int .i64 a2] 69)).alloc (.cells #[.int .i64 b0, .int .i64 b1, .int .i64 b2] 69)) = W4 at *
        clear HX2 HB2 HZ2 HQ2 hg0 hg1
        have hql' : q.length ≤ c - 1 := by omega
        obtain ⟨r1, hr1⟩ : ∃ r, r = someB q (n - 1) a0 a1 a2 := ⟨_, rfl⟩
        obtain ⟨r2, hr2⟩ : ∃ r, r = someB q (n - 1) b0 b1 b2 := ⟨_, rfl⟩
        obtain ⟨r3, hr3⟩ : ∃ r, r = someB q n x y z := ⟨_, rfl⟩
        rw [← hr1, ← hr2, ← hr3] at HV
        obtain ⟨AA, hAA⟩ : ∃ A, A = (if c = 1 then some ad else Option.map (fun x => x.add (1 * k69.sz)) (some ad)) := ⟨_, rfl⟩
        rw [← hAA] at hS
        have HC1 : Aside0 (∀ W, SomeS w g AA q x y z a0 a1 a2 b0 b1 b2 W → Calls Try.prog 83 #[.slice AA q.length (c - 1), .int .i64 (n - 1), .agg #[.int .i64 a0, .int .i64 a1, .int .i64 a2]] W fun e w' => e = .returned (.bool r1) ∧ SomeS w g AA q x y z a0 a1 a2 b0 b1 b2 w') :=
          ⟨fun W hW => (ih AA (c - 1) (n - 1) a0 a1 a2 W hW.row hql' (by omega)).mono (fun e w' h => ⟨by rw [hr1]; exact h.1, hW.below h.2⟩)⟩
        have HC2 : Aside0 (∀ W, SomeS w g AA q x y z a0 a1 a2 b0 b1 b2 W → Calls Try.prog 83 #[.slice AA q.length (c - 1), .int .i64 (n - 1), .agg #[.int .i64 b0, .int .i64 b1, .int .i64 b2]] W fun e w' => e = .returned (.bool r2) ∧ SomeS w g AA q x y z a0 a1 a2 b0 b1 b2 w') :=
          ⟨fun W hW => (ih AA (c - 1) (n - 1) b0 b1 b2 W hW.row hql' (by omega)).mono (fun e w' h => ⟨by rw [hr2]; exact h.1, hW.below h.2⟩)⟩
        have HC3 : Aside0 (∀ W, SomeS w g AA q x y z a0 a1 a2 b0 b1 b2 W → Calls Try.prog 83 #[.slice AA q.length (c - 1), .int .i64 n, .agg #[.int .i64 x, .int .i64 y, .int .i64 z]] W fun e w' => e = .returned (.bool r3) ∧ SomeS w g AA q x y z a0 a1 a2 b0 b1 b2 w') :=
          ⟨fun W hW => (ih AA (c - 1) n x y z W hW.row hql' (by omega)).mono (fun e w' h => ⟨by rw [hr3]; exact h.1, hW.below h.2⟩)⟩
        clear ih hr1 hr2 hr3
        have hn1 : 1 ≤ n := by omega
        have hn2 : n ≤ 9223372036854775807 := by omega
        have hwn : IntKind.i64.wrap (n - 1) = n - 1 := (i64_w _).trans (wr_of (by omega) (by omega))
        have hSS := some_full hS
        dsimp only at hSS
        obtain ⟨_, k1, k2, k3, k4, k5, k6, k7, k8, k9⟩ := hSS
        have hcut : ∀ W, (Instr.slice 87 (.slice (some ad) (q.length + 1) c) (some (.int .i64 1)) none none).run Try.prog W = .ok (.slice AA q.length (c - 1)) W := by
          rw [hAA]
          exact cut87 ad q.length c
        clear hAA
        cases r1
        · cases r2
          · refine wp_region_quietC (C := SomeS w g AA q x y z a0 a1 a2 b0 b1 b2) (by kernel_rfl) (by kernel_rfl) (SomeS.drew hS) ?_
            repeat (refine wpQuiet_step (fun K hK => ?_); go_simp; first | (refine hK _ ?_; clear hK K) | (apply Exists.intro; refine ⟨fun W hW => ?_, hK _ ?_⟩; (first | exact rfl | exact ⟨rfl, rfl⟩ | (with_reducible exact HC1.out _ hW) | (with_reducible exact HC2.out _ hW) | (with_reducible exact HC3.out _ hW) | (have hh := some_full hW; dsimp only at hh; obtain ⟨_, q1, q2, q3, q4, q5, q6, q7, q8, q9⟩ := hh; go_simp; first | done | exact rfl | exact ⟨rfl, rfl⟩)); clear hK K))
            refine wpQuiet_nil ?_
            intro W5 hS5
            go_wp2
            go_ret
            exact ⟨by rw [HV.out]; rfl, SomeS.bel hS5⟩
          · refine wp_region_quietC (C := SomeS w g AA q x y z a0 a1 a2 b0 b1 b2) (by kernel_rfl) (by kernel_rfl) (SomeS.drew hS) ?_
            repeat (refine wpQuiet_step (fun K hK => ?_); go_simp; first | (refine hK _ ?_; clear hK K) | (apply Exists.intro; refine ⟨fun W hW => ?_, hK _ ?_⟩; (first | exact rfl | exact ⟨rfl, rfl⟩ | (with_reducible exact HC1.out _ hW) | (with_reducible exact HC2.out _ hW) | (with_reducible exact HC3.out _ hW) | (have hh := some_full hW; dsimp only at hh; obtain ⟨_, q1, q2, q3, q4, q5, q6, q7, q8, q9⟩ := hh; go_simp; first | done | exact rfl | exact ⟨rfl, rfl⟩)); clear hK K))
            refine wpQuiet_nil ?_
            intro W5 hS5
            go_wp2
            go_ret
            exact ⟨by rw [HV.out]; rfl, SomeS.bel hS5⟩
        · refine wp_region_quietC (C := SomeS w g AA q x y z a0 a1 a2 b0 b1 b2) (by kernel_rfl) (by kernel_rfl) (SomeS.drew hS) ?_
          repeat (refine wpQuiet_step (fun K hK => ?_); go_simp; first | (refine hK _ ?_; clear hK K) | (apply Exists.intro; refine ⟨fun W hW => ?_, hK _ ?_⟩; (first | exact rfl | exact ⟨rfl, rfl⟩ | (with_reducible exact HC1.out _ hW) | (with_reducible exact HC2.out _ hW) | (with_reducible exact HC3.out _ hW) | (have hh := some_full hW; dsimp only at hh; obtain ⟨_, q1, q2, q3, q4, q5, q6, q7, q8, q9⟩ := hh; go_simp; first | done | exact rfl | exact ⟨rfl, rfl⟩)); clear hK K))
          refine wpQuiet_nil ?_
          intro W5 hS5
          go_wp2
          go_ret
          exact ⟨by rw [HV.out]; rfl, SomeS.bel hS5⟩

theorem verditerref06_some.calls (A0 : Option Addr) (c0 : Nat) (l : List S69) (n x y z : Int) (r : Bool) (w : World) (hr : Kd.C k69 w A0 l.length l) (hc : l.length ≤ c0) (h : verditerref06_some.f l n x y z = some r) :
    Calls Try.prog 83 #[.slice A0 l.length c0, .int .i64 n, .agg #[.int .i64 x, .int .i64 y, .int .i64 z]] w fun e w' => e = .returned (.bool r) ∧ Below w.heap.size w w' := by
  unfold verditerref06_some.f at h
  split at h
  · obtain rfl := Option.some.inj h
    exact some_calls l A0 c0 n x y z w hr hc (by with_reducible assumption)
  · cases h
end Go.Proofs.Ytdbeochifofdoaa.X
end

section
/-! verditerref06.marks. -/
namespace Go.Proofs.Ytdbeochifofdoaa.X
open Go.RowKit Go.Proofs.YtdbeochifofdoaaW.PrintWords Go.Proofs.YtdbeochifofdoaaW.PrintLast Go.Proofs.YtdbeochifofdoaaW.PrintMore
set_option linter.unusedVariables false
set_option linter.unusedSimpArgs false

def getk9 (m : S69) (k : Nat) : Int := if k = 0 then m.f0 else if k = 1 then m.f1 else m.f2
def cells9 (m : S69) : Array Value := #[.int .i64 m.f0, .int .i64 m.f1, .int .i64 m.f2]
theorem cells9_get (m : S69) (k : Nat) (hk : k < 3) : (cells9 m)[k]? = some (.int .i64 (getk9 m k)) := by
  rcases (show k = 0 ∨ k = 1 ∨ k = 2 by omega) with rfl | rfl | rfl <;> simp [cells9, getk9]
/-- Whether a mark has only so many weighings: the first i of its numbers. -/
def rgt9 (w : Int) (m : S69) : Nat → Bool
  | 0 => true
  | i + 1 => rgt9 w m i && (decide ((i : Int) < w) || decide (getk9 m i = 0))
def fst9 (m : S69) : Nat → Int
  | 0 => 0
  | i + 1 => if fst9 m i = 0 then getk9 m i else fst9 m i
/-- The mark with the number n. -/
def mk9 (n : Nat) : S69 := ⟨(n % 3 : Nat) - 1, (n / 3 % 3 : Nat) - 1, (n / 9 : Nat) - 1⟩
/-- The marks with the first n numbers. -/
def ml9 (w : Int) : Nat → List S69
  | 0 => []
  | n + 1 => ml9 w n ++ (if rgt9 w (mk9 n) 3 && decide (fst9 (mk9 n) 3 = 1) then [mk9 n] else [])
theorem ml9_le (w : Int) (n : Nat) : (ml9 w n).length ≤ n := by
  induction n with
  | zero => exact Nat.le_refl _
  | succ n ih =>
    rw [ml9, List.length_append]
    split <;> simp <;> omega
def verditerref06_marks.f (a0 : Int) : Option (List S69) := some (ml9 a0 27)

set_option maxHeartbeats 8000000 in
set_option maxRecDepth 100000 in
theorem verditerref06_marks.calls (a0 : Int) (r : List S69) (w : World) (h : verditerref06_marks.f a0 = some r) :
    Calls Try.prog 84 #[.int .i64 a0] w fun e w' => ∃ v0_, e = .returned v0_ ∧ Kd.R k69 69 w' w.heap.size (fun _ => True) v0_ r ∧ Below w.heap.size w w' := by
  obtain rfl := Option.some.inj h
  clear h
  go_enter Try.func84, Try.ntmps84
  go_wp2
  go_loopg [3, 4] 27 (fun gg v3 s wr => ∃ n : Nat, n ≤ 27 ∧ 27 - n ≤ gg ∧ s = .int .i64 n ∧ Aside0 (Kd.R k69 69 wr w.heap.size (fun _ => True) v3 (ml9 a0 n)) ∧ Aside0 (Below w.heap.size w wr))
  case atStart =>
    exact ⟨0, by omega, by omega, rfl, ⟨Kd.R_nil _ _ _ _ _⟩, ⟨Below.refl _ _⟩⟩
  case round =>
    obtain ⟨n, hn, hg, rfl, HR, BW⟩ := hrel
    obtain ⟨A, c, rfl⟩ := Kd.R_slice HR.out
    by_cases hn27 : n < 27
    · have hnz : (n : Int) < 27 := by omega
      go_upto_region 6 with (fail)
      have hm : (#[.int .i64 ((n : Int) % 3 - 1), .int .i64 ((n : Int) / 3 % 3 - 1), .int .i64 ((n : Int) / 9 - 1)] : Array Value) = cells9 (mk9 n) := by
        simp [cells9, mk9]
      rw [hm]
      have HX := Aside0.mk (blk_new wr (.cells (cells9 (mk9 n)) 69))
      have HRa := Aside0.mk (Kd.R_alloc HR.out (.cells (cells9 (mk9 n)) 69))
      have HBa := Aside0.mk (BW.out.alloc BW.out.size (.cells (cells9 (mk9 n)) 69))
      have HZ : Aside0 (wr.heap.size < (wr.alloc (.cells (cells9 (mk9 n)) 69)).heap.size) := ⟨by simp⟩
      have HN := Aside0.mk (show ml9 a0 n ++ (if rgt9 a0 (mk9 n) 3 && decide (fst9 (mk9 n) 3 = 1) then [mk9 n] else []) = ml9 a0 (n + 1) from rfl)
      have HLN := Aside0.mk (ml9_le a0 n)
      clear HR BW hm
      generalize wr.alloc (.cells (cells9 (mk9 n)) 69) = W1 at *
      generalize hgs : wr.heap.size = g at *
      clear hgs
      generalize hmm : mk9 n = m at *
      generalize ml9 a0 n = L at *
      obtain ⟨gp, rfl⟩ : ∃ q : Nat, q = gk := ⟨_, rfl⟩
      go_wp2
      go_loopg [6, 7, 8] 3 (fun gg s6 s7 s8 wi => ∃ i : Nat, i ≤ 3 ∧ 3 - i ≤ gg ∧ s6 = .bool (rgt9 a0 m i) ∧ s7 = .int .i64 (fst9 m i) ∧ s8 = .int .i64 i ∧ Aside0 (wi = W1))
      case atStart => exact ⟨0, by omega, by omega, rfl, rfl, rfl, ⟨rfl⟩⟩
      case round =>
        obtain ⟨i, hi, hgi, rfl, rfl, rfl, HW⟩ := hrel
        obtain rfl := HW.out
        clear HW
        by_cases hi3 : i < 3
        · have hiz : (i : Int) < 3 := by omega
          have hcell : wr.cell? ⟨g, i, none⟩ = some (.int .i64 (getk9 m i)) := (blk_cell HX.out _).trans (cells9_get m i hi3)
          have HS6 := Aside0.mk (show rgt9 a0 m (i + 1) = (rgt9 a0 m i && (decide ((i : Int) < a0) || decide (getk9 m i = 0))) from rfl)
          have HS7 := Aside0.mk (show fst9 m (i + 1) = if fst9 m i = 0 then getk9 m i else fst9 m i from rfl)
          generalize rgt9 a0 m i = ri at *
          generalize fst9 m i = fi at *
          generalize getk9 m i = mi at *
          cases ri <;> by_cases ha : (i : Int) < a0 <;> by_cases hz : mi = 0 <;> by_cases hf : fi = 0 <;>
            (go_wp2
             go_roundg (3 - (i + 1))
             case measure => omega
             case rel =>
               refine ⟨i + 1, by omega, by omega, ?_, ?_, by go_num, ⟨rfl⟩⟩
               · rw [HS6.out]; clear HS6 HS7; (first | rw [decide_eq_true ha] | rw [decide_eq_false (show ¬ ((i : Int) < a0) by omega)]); (first | rw [decide_eq_true hz] | rw [decide_eq_false (show ¬ (mi = 0) by omega)]); first | rfl | (rw [show (mi == 0) = false by simpa using hz]; rfl) | (rw [show (mi == 0) = true by simpa using hz]; rfl)
               · rw [HS7.out]; clear HS6 HS7; (first | rw [if_pos hf] | rw [if_neg (show ¬ (fi = 0) by omega)]); try (first | rfl | (rw [hz]) | (rw [hz, hf])))
        · have hiz : ¬ (i : Int) < 3 := by omega
          obtain rfl : i = 3 := by omega
          have c0 := blk_cell HX.out 0
          have c1 := blk_cell HX.out 1
          have c2 := blk_cell HX.out 2
          rw [show (cells9 m)[0]? = some (.int .i64 m.f0) from rfl] at c0
          rw [show (cells9 m)[1]? = some (.int .i64 m.f1) from rfl] at c1
          rw [show (cells9 m)[2]? = some (.int .i64 m.f2) from rfl] at c2
          generalize rgt9 a0 m 3 = r3 at *
          generalize fst9 m 3 = f3 at *
          by_cases hr : r3 = true
          · subst hr
            by_cases hf : f3 = 1
            · subst hf
              have HN1 : Aside0 (L ++ [m] = ml9 a0 (n + 1)) := ⟨by rw [← HN.out]; simp⟩
              go_wp2_with (first | (at_builtin; refine Kd.R_append k69 (w0 := w) w.heap.size rfl (.tmp 50) (.tmp 52) 87 69 (.agg #[.int .i64 0, .int .i64 0, .int .i64 0]) 24 rfl Try.underlying87 info69 rfl (by decide) (by omega) (.slice A L.length c) L m [.int .i64 m.f0, .int .i64 m.f1, .int .i64 m.f2] (fun _ => True) (fun _ => False) rfl rfl (k69_mkM _ _ _ m) (fun _ h => h.elim) (fun _ _ => trivial) HRa.out HBa.out HBa.out.size ?aL ?_))
              case aL => have := HLN.out; omega
              intro v1 w3 hR3 hB3 hG3 _
              have HR3 := Aside0.mk hR3
              have HB3 := Aside0.mk hB3
              clear hR3 hB3 hG3
              go_wp2
              go_roundg (27 - (n + 1))
              case measure => omega
              case rel =>
                exact ⟨n + 1, by omega, by omega, by go_num, ⟨by rw [← HN1.out]; exact HR3.out⟩, HB3⟩
            · have HN1 : Aside0 (L = ml9 a0 (n + 1)) := ⟨by rw [← HN.out]; simp [hf]⟩
              go_wp2
              go_roundg (27 - (n + 1))
              case measure => omega
              case rel =>
                exact ⟨n + 1, by omega, by omega, by go_num, ⟨by rw [← HN1.out]; exact HRa.out⟩, HBa⟩
          · replace hr := Bool.eq_false_iff.mpr hr
            subst hr
            have HN1 : Aside0 (L = ml9 a0 (n + 1)) := ⟨by rw [← HN.out]; simp⟩
            go_wp2
            go_roundg (27 - (n + 1))
            case measure => omega
            case rel =>
              exact ⟨n + 1, by omega, by omega, by go_num, ⟨by rw [← HN1.out]; exact HRa.out⟩, HBa⟩
    · have hnz : ¬ (n : Int) < 27 := by omega
      obtain rfl : n = 27 := by omega
      go_wp2
      go_ret
      exact ⟨_, rfl, HR.out, BW.out⟩

end Go.Proofs.Ytdbeochifofdoaa.X
end

section
/-! The two searches, carried out. -/
namespace Go.Proofs.Ytdbeochifofdoaa.X
open Go.RowKit
/-- Can so many lots be told with so many weighings? -/
def tblM (w : Nat) (i : Nat) : Bool := if w = 2 then i == 3 else if w = 3 then decide (3 ≤ i) && decide (i ≤ 12) else false
set_option maxRecDepth 100000 in
theorem tblA : ∀ w, w < 4 → ∀ i, i < 13 → (searchA ((i + 1 : Nat) : Int) w).isSome = tblM w (i + 1) := by decide +kernel
set_option maxRecDepth 100000 in
theorem tblS : ∀ w, w < 4 → ∀ i, i < 13 → someB (ml9 ((w : Nat) : Int) 27) ((i + 1 : Nat) : Int) 0 0 0 = tblM w (i + 1) := by decide +kernel
end Go.Proofs.Ytdbeochifofdoaa.X
end

section
-- Written by a program of this session (wip/hook.py, which runs the kit's print.py with contracts proved by hand). Not trusted: Lean checks it.
namespace Go.Proofs.Ytdbeochifofdoaa.X
open Go.RowKit Go.Proofs.YtdbeochifofdoaaW.PrintWords Go.Proofs.YtdbeochifofdoaaW.PrintLast Go.Proofs.YtdbeochifofdoaaW.PrintMore
attribute [local go_sem] max2_int min2_int max_two min_two max_three min_three max_four min_four   -- for this text's walks alone
set_option linter.unusedVariables false
set_option linter.unusedSimpArgs false

-- NOT PRINTED: function 4 (verditerlaw06_WeighBads)

/-! ### verditerref06_numbered: function 47 -/
def verditerref06_numbered.f (a0 : Int) (a1 : Int) : Option (Int) := (verditerref06_within.f a0 1 13).bind fun t296 => (if t296 = true then ((verditerref06_within.f a1 0 3).bind fun t297 => (if t297 = true then (some 0) else (some 1))) else (some 1))
set_option maxHeartbeats 8000000 in
set_option maxRecDepth 100000 in
theorem verditerref06_numbered.calls (a0 : Int) (a1 : Int) (r : Int) (w : World) (h : verditerref06_numbered.f a0 a1 = some r) :
    Calls Try.prog 47 #[.int .i64 a0, .int .i64 a1] w fun e w' => e = .returned (.int .i64 r) ∧ Drawn0 w w' := by
  have H : ((verditerref06_within.f a0 1 13).bind fun t296 => (if t296 = true then ((verditerref06_within.f a1 0 3).bind fun t297 => (if t297 = true then (some 0) else (some 1))) else (some 1))) = some r := h
  clear h
  replace H := Option.bind_eq_some_iff.mp H
  obtain ⟨t296, A30, H⟩ := H
  replace H : (if t296 = true then ((verditerref06_within.f a1 0 3).bind fun t297 => (if t297 = true then (some 0) else (some 1))) else (some 1)) = some r := H
  have A3 := Aside0.mk A30
  clear A30
  by_cases c4 : t296 = true
  · subst c4
    have H1 : ((verditerref06_within.f a1 0 3).bind fun t297 => (if t297 = true then (some 0) else (some 1))) = some r := by rw [if_pos rfl] at H; exact H
    clear H
    have H := H1
    clear H1
    replace H := Option.bind_eq_some_iff.mp H
    obtain ⟨t297, A50, H⟩ := H
    replace H : (if t297 = true then (some 0) else (some 1)) = some r := H
    have A5 := Aside0.mk A50
    clear A50
    by_cases c6 : t297 = true
    · subst c6
      have H1 : (some 0) = some r := by rw [if_pos rfl] at H; exact H
      clear H
      have H := H1
      clear H1
      obtain rfl := Option.some.inj H
      go_enter Try.func47, Try.ntmps47
      go_wp2_with (first | ((with_reducible refine gate_callee (f := 82) rfl ?_); refine goesL_ (some 6) rfl rfl Try.func82 (by kernel_rfl) rfl #[.int .i64 a0, .int .i64 1, .int .i64 13] rfl (by (try simp only [List.map_toArray, List.map_cons, List.map_nil]); first | done | rfl | (simp only [List.length_drop, List.length_take]; rfl)) ?_; (with_reducible refine (verditerref06_within.calls a0 1 13 true _ A3.out).mono ?_); rintro e w' ⟨rfl, ⟨nd, rfl⟩⟩; refine ⟨_, rfl, ?_⟩) | (go_at_call 82; (with_reducible refine (verditerref06_within.calls a1 0 3 true _ A5.out).mono ?_); rintro e w' ⟨rfl, ⟨nd, rfl⟩⟩))
      go_ret
      exact ⟨by first | rfl | (simp; done) | (simp [*]; done), by repeat (first | exact Drawn0.refl _ | apply Drawn0.step)⟩
    · replace c6 := Bool.eq_false_iff.mpr c6
      subst c6
      have H1 : (some 1) = some r := by rw [if_neg (show ¬ (false = true) by decide)] at H; exact H
      clear H
      have H := H1
      clear H1
      obtain rfl := Option.some.inj H
      go_enter Try.func47, Try.ntmps47
      go_wp2_with (first | ((with_reducible refine gate_callee (f := 82) rfl ?_); refine goesL_ (some 6) rfl rfl Try.func82 (by kernel_rfl) rfl #[.int .i64 a0, .int .i64 1, .int .i64 13] rfl (by (try simp only [List.map_toArray, List.map_cons, List.map_nil]); first | done | rfl | (simp only [List.length_drop, List.length_take]; rfl)) ?_; (with_reducible refine (verditerref06_within.calls a0 1 13 true _ A3.out).mono ?_); rintro e w' ⟨rfl, ⟨nd, rfl⟩⟩; refine ⟨_, rfl, ?_⟩) | (go_at_call 82; (with_reducible refine (verditerref06_within.calls a1 0 3 false _ A5.out).mono ?_); rintro e w' ⟨rfl, ⟨nd, rfl⟩⟩))
      go_ret
      exact ⟨by first | rfl | (simp; done) | (simp [*]; done), by repeat (first | exact Drawn0.refl _ | apply Drawn0.step)⟩
  · replace c4 := Bool.eq_false_iff.mpr c4
    subst c4
    have H1 : (some 1) = some r := by rw [if_neg (show ¬ (false = true) by decide)] at H; exact H
    clear H
    have H := H1
    clear H1
    obtain rfl := Option.some.inj H
    go_enter Try.func47, Try.ntmps47
    go_wp2_with (first | ((with_reducible refine gate_callee (f := 82) rfl ?_); refine goesL_ (some 6) rfl rfl Try.func82 (by kernel_rfl) rfl #[.int .i64 a0, .int .i64 1, .int .i64 13] rfl (by (try simp only [List.map_toArray, List.map_cons, List.map_nil]); first | done | rfl | (simp only [List.length_drop, List.length_take]; rfl)) ?_; (with_reducible refine (verditerref06_within.calls a0 1 13 false _ A3.out).mono ?_); rintro e w' ⟨rfl, ⟨nd, rfl⟩⟩; refine ⟨_, rfl, ?_⟩))
    go_ret
    exact ⟨by first | rfl | (simp; done) | (simp [*]; done), by repeat (first | exact Drawn0.refl _ | apply Drawn0.step)⟩

-- GIVEN: function 83 (verditerref06_some): YtdbeochifofdoaaG83

-- GIVEN: function 84 (verditerref06_marks): YtdbeochifofdoaaG84

/-! ### verditerref06_can: function 48 -/
def verditerref06_can.f (a0 : Int) (a1 : Int) : Option (Bool) := (verditerref06_marks.f a1).bind fun t298 => ((verditerref06_some.f t298 a0 0 0 0).bind fun t301 => (some t301))
set_option maxHeartbeats 8000000 in
set_option maxRecDepth 100000 in
theorem verditerref06_can.calls (a0 : Int) (a1 : Int) (r : Bool) (w : World) (h : verditerref06_can.f a0 a1 = some r) :
    Calls Try.prog 48 #[.int .i64 a0, .int .i64 a1] w fun e w' => e = .returned (.bool r) ∧ Below w.heap.size w w' := by
  have hu69 := Try.underlying69
  have HB := Aside0.mk (Below.refl w.heap.size w)
  have H : ((verditerref06_marks.f a1).bind fun t298 => ((verditerref06_some.f t298 a0 0 0 0).bind fun t301 => (some t301))) = some r := h
  clear h
  replace H := Option.bind_eq_some_iff.mp H
  obtain ⟨t298, A30, H⟩ := H
  replace H : ((verditerref06_some.f t298 a0 0 0 0).bind fun t301 => (some t301)) = some r := H
  have A3 := Aside0.mk A30
  clear A30
  replace H := Option.bind_eq_some_iff.mp H
  obtain ⟨t301, A40, H⟩ := H
  replace H : (some t301) = some r := H
  have A4 := Aside0.mk A40
  clear A40
  obtain rfl := Option.some.inj H
  go_enter Try.func48, Try.ntmps48
  go_wp2_with (first | ((with_reducible refine gate_callee (f := 84) rfl ?_); refine goesL_ (some 6) rfl rfl Try.func84 (by kernel_rfl) rfl #[.int .i64 a1] rfl (by (try simp only [List.map_toArray, List.map_cons, List.map_nil]); first | done | rfl | (simp only [List.length_drop, List.length_take]; rfl)) ?_; (with_reducible refine (verditerref06_marks.calls a1 t298 _ A3.out).mono ?_); rintro e w5 ⟨v299, rfl, ho0, hb⟩; refine ⟨_, rfl, ?_⟩; have n0_ := Aside0.mk (Kd.R_lower ho0 (below_size (by repeat (first | (with_reducible first | exact HB.out | apply below_alloc | apply pw_below_drewN | apply below_drew1) | exact HB.out)))); have n1_ := Aside0.mk (below_step (by repeat (first | (with_reducible first | exact HB.out | apply below_alloc | apply pw_below_drewN | apply below_drew1) | exact HB.out)) hb); clear HB; have HO300 := n0_; have HB := n1_; clear n0_ n1_; (try clear hb); (try clear hb2); (try clear hk); (try clear hi); (try clear ho0); obtain ⟨Ao6, co6, eo6⟩ := Kd.R_slice HO300.out; subst eo6) | ((with_reducible refine gate_callee (f := 83) rfl ?_); refine goesL_ (some 9) rfl rfl Try.func83 (by kernel_rfl) rfl #[.slice Ao6 t298.length co6, .int .i64 a0, .agg #[.int .i64 0, .int .i64 0, .int .i64 0]] rfl (by (try simp only [List.map_toArray, List.map_cons, List.map_nil]); first | done | rfl | (simp only [List.length_drop, List.length_take]; rfl)) ?_; (with_reducible refine (verditerref06_some.calls _ _ t298 a0 0 0 0 t301 _ ?side1 ?side2 A4.out).mono ?_); (case side1 => repeat (first | exact (Kd.R_reads' HO300.out).2.2 | (with_reducible refine Kd.C_alloc ?_ _) | (with_reducible refine Kd.C_drewN ?_ _) | (with_reducible refine Kd.C_drew ?_))); (case side2 => exact (Kd.R_reads' HO300.out).2.1); rintro e w7 ⟨rfl, hb⟩; refine ⟨_, rfl, ?_⟩; have n0_ := Aside0.mk (Kd.R_below (by (with_reducible repeat (first | apply Kd.R_alloc | apply Kd.R_drewN | apply Kd.R_drew)); exact HO300.out) hb); have n1_ := Aside0.mk (below_step (by repeat (first | (with_reducible first | exact HB.out | apply below_alloc | apply pw_below_drewN | apply below_drew1) | exact HB.out)) hb); clear HO300; clear HB; have HO300 := n0_; have HB := n1_; clear n0_ n1_; (try clear hb); (try clear hb2); (try clear hk); (try clear hi)))
  go_ret
  exact ⟨by first | rfl | (simp [errW_none, errW_some] <;> rfl) | (simp [*, errW_none, errW_some] <;> rfl), by repeat (first | (with_reducible first | exact HB.out | apply below_alloc | apply pw_below_drewN | apply below_drew1) | exact HB.out)⟩

end Go.Proofs.Ytdbeochifofdoaa.X
end

section
-- Written by a program of this session (wip/hook.py, which runs the kit's print.py with contracts proved by hand). Not trusted: Lean checks it.
namespace Go.Proofs.Ytdbeochifofdoaa.X
open Go.RowKit Go.Proofs.YtdbeochifofdoaaW.PrintWords Go.Proofs.YtdbeochifofdoaaW.PrintLast Go.Proofs.YtdbeochifofdoaaW.PrintMore
attribute [local go_sem] max2_int min2_int max_two min_two max_three min_three max_four min_four   -- for this text's walks alone
set_option linter.unusedVariables false
set_option linter.unusedSimpArgs false

/-! ### verditerref06_Most: function 21 -/
def verditerref06_Most.l0 : Nat → Int → Int → Option (Int × Int)
  | 0, _, _ => none
  | k + 1, x0, x5 => if x5 > 0 then ((verditerref06_can.f x5 x0).bind fun t303 => (if t303 = true then (some (x5, 0)) else (verditerref06_Most.l0 k x0 (wrap64 (x5 - 1))))) else (some (0, 0))
def verditerref06_Most.f (k : Nat) (a0 : Int) : Option (Int × Int) := (verditerref06_numbered.f 1 a0).bind fun t302 => (if t302 = 0 then (verditerref06_Most.l0 k a0 13) else (some (0, t302)))
theorem verditerref06_Most.mono_l : ∀ k, (∀ y0 y1, LeO (verditerref06_Most.l0 k y0 y1) (verditerref06_Most.l0 (k + 1) y0 y1))
  | 0 => fun _ _ r h => by simp [verditerref06_Most.l0] at h
  | k + 1 => by
    have ih0 := verditerref06_Most.mono_l k
    · intro y0 y1
      unfold verditerref06_Most.l0
      repeat' first
      | (with_reducible exact ih0 _ _)
      | (with_reducible exact LeO.refl _)
      | (with_reducible exact LeO.none _)
      | (with_reducible refine LeO.ite ?_ ?_)
      | (with_reducible refine LeO.bind ?_ (fun _ => ?_))
      | exact ih0 _ _
      | exact LeO.none _
      | refine LeO.ite ?_ ?_
      | refine LeO.bind ?_ (fun _ => ?_)
theorem verditerref06_Most.mono : ∀ a0 k, LeO (verditerref06_Most.f k a0) (verditerref06_Most.f (k + 1) a0) := by
  intro a0 k
  have ih0 := verditerref06_Most.mono_l k
  unfold verditerref06_Most.f
  repeat' first
      | (with_reducible exact ih0 _ _)
      | (with_reducible exact LeO.refl _)
      | (with_reducible exact LeO.none _)
      | (with_reducible refine LeO.ite ?_ ?_)
      | (with_reducible refine LeO.bind ?_ (fun _ => ?_))
      | exact ih0 _ _
      | exact LeO.none _
      | refine LeO.ite ?_ ?_
      | refine LeO.bind ?_ (fun _ => ?_)
set_option maxHeartbeats 8000000 in
set_option maxRecDepth 100000 in
theorem verditerref06_Most.calls (k : Nat) (a0 : Int) (r1 : Int) (r2 : Int) (w : World) (h : verditerref06_Most.f k a0 = some (r1, r2)) :
    Calls Try.prog 21 #[.int .i64 a0] w fun e w' => e = .returned (.tuple #[.int .i64 r1, .int .i64 r2]) ∧ Below w.heap.size w w' := by
  have HB := Aside0.mk (Below.refl w.heap.size w)
  have H : ((verditerref06_numbered.f 1 a0).bind fun t302 => (if t302 = 0 then (verditerref06_Most.l0 k a0 13) else (some (0, t302)))) = some (r1, r2) := h
  clear h
  replace H := Option.bind_eq_some_iff.mp H
  obtain ⟨t302, A20, H⟩ := H
  replace H : (if t302 = 0 then (verditerref06_Most.l0 k a0 13) else (some (0, t302))) = some (r1, r2) := H
  have A2 := Aside0.mk A20
  clear A20
  by_cases c3 : t302 = 0
  · rw [if_pos c3] at H
    have c3b0 : (t302 == 0) = true := beq_iff_eq.mpr c3
    have c3b1 : (t302 != 0) = false := bne_eq_false_iff_eq.mpr c3
    clear c3
    have H' := Aside0.mk H
    clear H
    go_enter Try.func21, Try.ntmps21
    go_wp2_with (first | ((with_reducible refine gate_callee (f := 47) rfl ?_); refine goesL_ (some 7) rfl rfl Try.func47 (by kernel_rfl) rfl #[.int .i64 1, .int .i64 a0] rfl (by (try simp only [List.map_toArray, List.map_cons, List.map_nil]); first | done | rfl | (simp only [List.length_drop, List.length_take]; rfl)) ?_; (with_reducible refine (verditerref06_numbered.calls 1 a0 t302 _ A2.out).mono ?_); rintro e w' ⟨rfl, ⟨nd, rfl⟩⟩; refine ⟨_, rfl, ?_⟩))
    go_loopg [5] k (fun kq v5 w' => ∃ (x5_1 : Int), v5 = .int .i64 x5_1 ∧ Aside0 (verditerref06_Most.l0 kq a0 x5_1 = some (r1, r2)) ∧ Aside0 (kq ≤ k) ∧ Aside0 (Below w.heap.size w w'))
    case atStart => exact ⟨(13), (by first | rfl | (simp; done) | (simp [*]; done)), H', ⟨Nat.le_refl _⟩, ⟨by repeat (first | (with_reducible first | exact HB.out | apply below_alloc | apply pw_below_drewN | apply below_drew1) | exact HB.out)⟩⟩
    case round =>
      clear H'
      try clear c2
      try clear p2
      try clear c3
      try clear c3b0
      try clear c3b1
      obtain ⟨x5_1, rfl, HA, HK1, HB⟩ := hrel
      cases gk with
      | zero => exact absurd HA.out (by simp [verditerref06_Most.l0])
      | succ k1 =>
        have H := HA.out
        clear HA
        simp only [verditerref06_Most.l0] at H
        by_cases c4 : x5_1 > 0
        · rw [if_pos c4] at H
          have c4b0 : decide (0 < x5_1) = true := decide_eq_true c4
          clear c4
          replace H := Option.bind_eq_some_iff.mp H
          obtain ⟨t303, A50, H⟩ := H
          replace H : (if t303 = true then (some (x5_1, 0)) else (verditerref06_Most.l0 k1 a0 (wrap64 (x5_1 - 1)))) = some (r1, r2) := H
          have A5 := Aside0.mk A50
          clear A50
          by_cases c6 : t303 = true
          · subst c6
            have H1 : (some (x5_1, 0)) = some (r1, r2) := by rw [if_pos rfl] at H; exact H
            clear H
            have H := H1
            clear H1
            simp only [Option.some.injEq, Prod.mk.injEq] at H
            obtain ⟨rfl, rfl⟩ := H
            go_wp2_with (first | ((with_reducible refine gate_callee (f := 48) rfl ?_); refine goesL_ (some 17) rfl rfl Try.func48 (by kernel_rfl) rfl #[.int .i64 x5_1, .int .i64 a0] rfl (by (try simp only [List.map_toArray, List.map_cons, List.map_nil]); first | done | rfl | (simp only [List.length_drop, List.length_take]; rfl)) ?_; (with_reducible refine (verditerref06_can.calls x5_1 a0 true _ A5.out).mono ?_); rintro e w7 ⟨rfl, hb⟩; refine ⟨_, rfl, ?_⟩; have n0_ := Aside0.mk (below_step (by repeat (first | (with_reducible first | exact HB.out | apply below_alloc | apply pw_below_drewN | apply below_drew1) | exact HB.out)) hb); clear HB; have HB := n0_; clear n0_; (try clear hb); (try clear hb2); (try clear hk); (try clear hi)))
            go_ret2
            exact ⟨by first | rfl | (simp [errW_none, errW_some] <;> rfl) | (simp [*, errW_none, errW_some] <;> rfl), by repeat (first | (with_reducible first | exact HB.out | apply below_alloc | apply pw_below_drewN | apply below_drew1) | exact HB.out)⟩
          · replace c6 := Bool.eq_false_iff.mpr c6
            subst c6
            have H1 : (verditerref06_Most.l0 k1 a0 (wrap64 (x5_1 - 1))) = some (r1, r2) := by rw [if_neg (show ¬ (false = true) by decide)] at H; exact H
            clear H
            have H := H1
            clear H1
            have H' := Aside0.mk H
            clear H
            go_wp2_with (first | ((with_reducible refine gate_callee (f := 48) rfl ?_); refine goesL_ (some 17) rfl rfl Try.func48 (by kernel_rfl) rfl #[.int .i64 x5_1, .int .i64 a0] rfl (by (try simp only [List.map_toArray, List.map_cons, List.map_nil]); first | done | rfl | (simp only [List.length_drop, List.length_take]; rfl)) ?_; (with_reducible refine (verditerref06_can.calls x5_1 a0 false _ A5.out).mono ?_); rintro e w8 ⟨rfl, hb⟩; refine ⟨_, rfl, ?_⟩; have n0_ := Aside0.mk (below_step (by repeat (first | (with_reducible first | exact HB.out | apply below_alloc | apply pw_below_drewN | apply below_drew1) | exact HB.out)) hb); clear HB; have HB := n0_; clear n0_; (try clear hb); (try clear hb2); (try clear hk); (try clear hi)))
            go_roundg k1
            case measure => have := HK1.out; omega
            case rel => exact ⟨(wrap64 (x5_1 - 1)), (by first | rfl | (simp; done) | (simp [*]; done)), H', ⟨by have := HK1.out; omega⟩, ⟨by repeat (first | (with_reducible first | exact HB.out | apply below_alloc | apply pw_below_drewN | apply below_drew1) | exact HB.out)⟩⟩
        · rw [if_neg c4] at H
          have c4b0 : decide (0 < x5_1) = false := decide_eq_false c4
          clear c4
          simp only [Option.some.injEq, Prod.mk.injEq] at H
          obtain ⟨rfl, rfl⟩ := H
          go_wp2
          go_ret2
          exact ⟨by first | rfl | (simp [errW_none, errW_some] <;> rfl) | (simp [*, errW_none, errW_some] <;> rfl), by repeat (first | (with_reducible first | exact HB.out | apply below_alloc | apply pw_below_drewN | apply below_drew1) | exact HB.out)⟩
  · rw [if_neg c3] at H
    have c3b0 : (t302 == 0) = false := beq_eq_false_iff_ne.mpr c3
    have c3b1 : (t302 != 0) = true := bne_iff_ne.mpr c3
    simp only [Option.some.injEq, Prod.mk.injEq] at H
    obtain ⟨rfl, rfl⟩ := H
    go_enter Try.func21, Try.ntmps21
    go_wp2_with (first | ((with_reducible refine gate_callee (f := 47) rfl ?_); refine goesL_ (some 7) rfl rfl Try.func47 (by kernel_rfl) rfl #[.int .i64 1, .int .i64 a0] rfl (by (try simp only [List.map_toArray, List.map_cons, List.map_nil]); first | done | rfl | (simp only [List.length_drop, List.length_take]; rfl)) ?_; (with_reducible refine (verditerref06_numbered.calls 1 a0 t302 _ A2.out).mono ?_); rintro e w' ⟨rfl, ⟨nd, rfl⟩⟩; refine ⟨_, rfl, ?_⟩))
    go_ret2
    exact ⟨by first | rfl | (simp [errW_none, errW_some] <;> rfl) | (simp [*, errW_none, errW_some] <;> rfl), by repeat (first | (with_reducible first | exact HB.out | apply below_alloc | apply pw_below_drewN | apply below_drew1) | exact HB.out)⟩

end Go.Proofs.Ytdbeochifofdoaa.X
end

section
-- Written by a program of this session (wip/hook.py, which runs the kit's print.py with contracts proved by hand). Not trusted: Lean checks it.
namespace Go.Proofs.Ytdbeochifofdoaa.X
open Go.RowKit Go.Proofs.YtdbeochifofdoaaW.PrintWords Go.Proofs.YtdbeochifofdoaaW.PrintLast Go.Proofs.YtdbeochifofdoaaW.PrintMore
attribute [local go_sem] max2_int min2_int max_two min_two max_three min_three max_four min_four   -- for this text's walks alone
set_option linter.unusedVariables false
set_option linter.unusedSimpArgs false

/-! ### verditerref06_CanTell: function 22 -/
def verditerref06_CanTell.f (a0 : Int) (a1 : Int) : Option (Bool × Int) := (verditerref06_numbered.f a0 a1).bind fun t304 => (if t304 = 0 then ((verditerref06_can.f a0 a1).bind fun t305 => (some (t305, 0))) else (some (false, t304)))
set_option maxHeartbeats 8000000 in
set_option maxRecDepth 100000 in
theorem verditerref06_CanTell.calls (a0 : Int) (a1 : Int) (r1 : Bool) (r2 : Int) (w : World) (h : verditerref06_CanTell.f a0 a1 = some (r1, r2)) :
    Calls Try.prog 22 #[.int .i64 a0, .int .i64 a1] w fun e w' => e = .returned (.tuple #[.bool r1, .int .i64 r2]) ∧ Below w.heap.size w w' := by
  have HB := Aside0.mk (Below.refl w.heap.size w)
  have H : ((verditerref06_numbered.f a0 a1).bind fun t304 => (if t304 = 0 then ((verditerref06_can.f a0 a1).bind fun t305 => (some (t305, 0))) else (some (false, t304)))) = some (r1, r2) := h
  clear h
  replace H := Option.bind_eq_some_iff.mp H
  obtain ⟨t304, A30, H⟩ := H
  replace H : (if t304 = 0 then ((verditerref06_can.f a0 a1).bind fun t305 => (some (t305, 0))) else (some (false, t304))) = some (r1, r2) := H
  have A3 := Aside0.mk A30
  clear A30
  by_cases c4 : t304 = 0
  · rw [if_pos c4] at H
    have c4b0 : (t304 == 0) = true := beq_iff_eq.mpr c4
    have c4b1 : (t304 != 0) = false := bne_eq_false_iff_eq.mpr c4
    clear c4
    replace H := Option.bind_eq_some_iff.mp H
    obtain ⟨t305, A50, H⟩ := H
    replace H : (some (t305, 0)) = some (r1, r2) := H
    have A5 := Aside0.mk A50
    clear A50
    simp only [Option.some.injEq, Prod.mk.injEq] at H
    obtain ⟨rfl, rfl⟩ := H
    go_enter Try.func22, Try.ntmps22
    go_wp2_with (first | ((with_reducible refine gate_callee (f := 47) rfl ?_); refine goesL_ (some 9) rfl rfl Try.func47 (by kernel_rfl) rfl #[.int .i64 a0, .int .i64 a1] rfl (by (try simp only [List.map_toArray, List.map_cons, List.map_nil]); first | done | rfl | (simp only [List.length_drop, List.length_take]; rfl)) ?_; (with_reducible refine (verditerref06_numbered.calls a0 a1 t304 _ A3.out).mono ?_); rintro e w' ⟨rfl, ⟨nd, rfl⟩⟩; refine ⟨_, rfl, ?_⟩) | ((with_reducible refine gate_callee (f := 48) rfl ?_); refine goesL_ (some 15) rfl rfl Try.func48 (by kernel_rfl) rfl #[.int .i64 a0, .int .i64 a1] rfl (by (try simp only [List.map_toArray, List.map_cons, List.map_nil]); first | done | rfl | (simp only [List.length_drop, List.length_take]; rfl)) ?_; (with_reducible refine (verditerref06_can.calls a0 a1 t305 _ A5.out).mono ?_); rintro e w6 ⟨rfl, hb⟩; refine ⟨_, rfl, ?_⟩; have n0_ := Aside0.mk (below_step (by repeat (first | (with_reducible first | exact HB.out | apply below_alloc | apply pw_below_drewN | apply below_drew1) | exact HB.out)) hb); clear HB; have HB := n0_; clear n0_; (try clear hb); (try clear hb2); (try clear hk); (try clear hi)))
    go_ret2
    exact ⟨by first | rfl | (simp [errW_none, errW_some] <;> rfl) | (simp [*, errW_none, errW_some] <;> rfl), by repeat (first | (with_reducible first | exact HB.out | apply below_alloc | apply pw_below_drewN | apply below_drew1) | exact HB.out)⟩
  · rw [if_neg c4] at H
    have c4b0 : (t304 == 0) = false := beq_eq_false_iff_ne.mpr c4
    have c4b1 : (t304 != 0) = true := bne_iff_ne.mpr c4
    simp only [Option.some.injEq, Prod.mk.injEq] at H
    obtain ⟨rfl, rfl⟩ := H
    go_enter Try.func22, Try.ntmps22
    go_wp2_with (first | ((with_reducible refine gate_callee (f := 47) rfl ?_); refine goesL_ (some 9) rfl rfl Try.func47 (by kernel_rfl) rfl #[.int .i64 a0, .int .i64 a1] rfl (by (try simp only [List.map_toArray, List.map_cons, List.map_nil]); first | done | rfl | (simp only [List.length_drop, List.length_take]; rfl)) ?_; (with_reducible refine (verditerref06_numbered.calls a0 a1 t304 _ A3.out).mono ?_); rintro e w' ⟨rfl, ⟨nd, rfl⟩⟩; refine ⟨_, rfl, ?_⟩))
    go_ret2
    exact ⟨by first | rfl | (simp [errW_none, errW_some] <;> rfl) | (simp [*, errW_none, errW_some] <;> rfl), by repeat (first | (with_reducible first | exact HB.out | apply below_alloc | apply pw_below_drewN | apply below_drew1) | exact HB.out)⟩

/-! ### weigh_CanTell: function 24 -/
def weigh_CanTell.f (a0 : Int) (a1 : Int) : Option (Bool × Int) := (weigh_counted.f a0 a1).bind fun t306 => (if t306 = 0 then ((weigh_search.f a0 a1).bind fun bt307 => (some (bt307.2, 0))) else (some (false, t306)))
set_option maxHeartbeats 8000000 in
set_option maxRecDepth 100000 in
theorem weigh_CanTell.calls (a0 : Int) (a1 : Int) (r1 : Bool) (r2 : Int) (w : World) (h : weigh_CanTell.f a0 a1 = some (r1, r2)) :
    Calls Try.prog 24 #[.int .i64 a0, .int .i64 a1] w fun e w' => e = .returned (.tuple #[.bool r1, .int .i64 r2]) ∧ Below w.heap.size w w' := by
  have HB := Aside0.mk (Below.refl w.heap.size w)
  have H : ((weigh_counted.f a0 a1).bind fun t306 => (if t306 = 0 then ((weigh_search.f a0 a1).bind fun bt307 => (some (bt307.2, 0))) else (some (false, t306)))) = some (r1, r2) := h
  clear h
  replace H := Option.bind_eq_some_iff.mp H
  obtain ⟨t306, A30, H⟩ := H
  replace H : (if t306 = 0 then ((weigh_search.f a0 a1).bind fun bt307 => (some (bt307.2, 0))) else (some (false, t306))) = some (r1, r2) := H
  have A3 := Aside0.mk A30
  clear A30
  by_cases c4 : t306 = 0
  · rw [if_pos c4] at H
    have c4b0 : (t306 == 0) = true := beq_iff_eq.mpr c4
    have c4b1 : (t306 != 0) = false := bne_eq_false_iff_eq.mpr c4
    clear c4
    replace H := Option.bind_eq_some_iff.mp H
    obtain ⟨⟨t307, t308⟩, A50, H⟩ := H
    replace H : (some (t308, 0)) = some (r1, r2) := H
    have A5 := Aside0.mk A50
    clear A50
    simp only [Option.some.injEq, Prod.mk.injEq] at H
    obtain ⟨rfl, rfl⟩ := H
    go_enter Try.func24, Try.ntmps24
    go_wp2_with (first | ((with_reducible refine gate_callee (f := 49) rfl ?_); refine goesL_ (some 11) rfl rfl Try.func49 (by kernel_rfl) rfl #[.int .i64 a0, .int .i64 a1] rfl (by (try simp only [List.map_toArray, List.map_cons, List.map_nil]); first | done | rfl | (simp only [List.length_drop, List.length_take]; rfl)) ?_; (with_reducible refine (weigh_counted.calls a0 a1 t306 _ A3.out).mono ?_); rintro e w' ⟨rfl, ⟨nd, rfl⟩⟩; refine ⟨_, rfl, ?_⟩) | ((with_reducible refine gate_callee (f := 50) rfl ?_); refine goesL_ (some 18) rfl rfl Try.func50 (by kernel_rfl) rfl #[.int .i64 a0, .int .i64 a1] rfl (by (try simp only [List.map_toArray, List.map_cons, List.map_nil]); first | done | rfl | (simp only [List.length_drop, List.length_take]; rfl)) ?_; (with_reducible refine (weigh_search.calls a0 a1 t307 t308 _ A5.out).mono ?_); rintro e w6 ⟨v309, rfl, ho0, hb⟩; refine ⟨_, rfl, ?_⟩; have n0_ := Aside0.mk (Kd.R_lower ho0 (below_size (by repeat (first | (with_reducible first | exact HB.out | apply below_alloc | apply pw_below_drewN | apply below_drew1) | exact HB.out)))); have n1_ := Aside0.mk (below_step (by repeat (first | (with_reducible first | exact HB.out | apply below_alloc | apply pw_below_drewN | apply below_drew1) | exact HB.out)) hb); clear HB; have HO310 := n0_; have HB := n1_; clear n0_ n1_; (try clear hb); (try clear hb2); (try clear hk); (try clear hi); (try clear ho0)))
    go_ret2
    exact ⟨by first | rfl | (simp [errW_none, errW_some] <;> rfl) | (simp [*, errW_none, errW_some] <;> rfl), by repeat (first | (with_reducible first | exact HB.out | apply below_alloc | apply pw_below_drewN | apply below_drew1) | exact HB.out)⟩
  · rw [if_neg c4] at H
    have c4b0 : (t306 == 0) = false := beq_eq_false_iff_ne.mpr c4
    have c4b1 : (t306 != 0) = true := bne_iff_ne.mpr c4
    simp only [Option.some.injEq, Prod.mk.injEq] at H
    obtain ⟨rfl, rfl⟩ := H
    go_enter Try.func24, Try.ntmps24
    go_wp2_with (first | ((with_reducible refine gate_callee (f := 49) rfl ?_); refine goesL_ (some 11) rfl rfl Try.func49 (by kernel_rfl) rfl #[.int .i64 a0, .int .i64 a1] rfl (by (try simp only [List.map_toArray, List.map_cons, List.map_nil]); first | done | rfl | (simp only [List.length_drop, List.length_take]; rfl)) ?_; (with_reducible refine (weigh_counted.calls a0 a1 t306 _ A3.out).mono ?_); rintro e w' ⟨rfl, ⟨nd, rfl⟩⟩; refine ⟨_, rfl, ?_⟩))
    go_ret2
    exact ⟨by first | rfl | (simp [errW_none, errW_some] <;> rfl) | (simp [*, errW_none, errW_some] <;> rfl), by repeat (first | (with_reducible first | exact HB.out | apply below_alloc | apply pw_below_drewN | apply below_drew1) | exact HB.out)⟩

end Go.Proofs.Ytdbeochifofdoaa.X
end

section
/-! The plain facts of how many lots can be told, by the program's search and by the document's. -/
namespace Go.Proofs.Ytdbeochifofdoaa.X
open Go.RowKit Go.Proofs.YtdbeochifofdoaaW.PrintWords
set_option linter.unusedSimpArgs false
set_option linter.unusedVariables false
set_option maxRecDepth 100000 in
theorem known_true : verditerlaw06_known.f 20 = some true := by decide +kernel
theorem search_2 (w n : Nat) (hw : w < 4) (h1 : 1 ≤ n) (h2 : n ≤ 13) : weigh_search.f n w = some ((searchR n w).1, tblM w n) := by
  unfold weigh_search.f
  rw [if_pos ⟨⟨by omega, by omega⟩, by omega, by omega⟩]
  rw [show ((w : Nat) : Int).toNat = w from rfl]
  have h := tblA w hw (n - 1) (by omega)
  rw [show n - 1 + 1 = n by omega] at h
  rw [← h]
  unfold searchR
  cases searchA (n : Int) w <;> rfl
theorem can_2 (w n : Nat) (hw : w < 4) (h1 : 1 ≤ n) (h2 : n ≤ 13) : verditerref06_can.f n w = some (tblM w n) := by
  unfold verditerref06_can.f verditerref06_marks.f verditerref06_some.f
  have h := tblS w hw (n - 1) (by omega)
  rw [show n - 1 + 1 = n by omega] at h
  simp only [Option.bind_some]
  rw [if_pos (by omega), h]
  rfl
theorem within_is (a lo hi : Int) : weigh_within.f a lo hi = some (decide (lo ≤ a ∧ a ≤ hi)) := by
  unfold weigh_within.f
  by_cases h : a ≥ lo
  · rw [if_pos h]; simp [show lo ≤ a from h]
  · rw [if_neg h]; simp [show ¬ lo ≤ a from h]
theorem rwithin_is (a lo hi : Int) : verditerref06_within.f a lo hi = some (decide (lo ≤ a ∧ a ≤ hi)) := by
  unfold verditerref06_within.f
  by_cases h : a ≥ lo
  · rw [if_pos h]; simp [show lo ≤ a from h]
  · rw [if_neg h]; simp [show ¬ lo ≤ a from h]
theorem counted_in {a b : Int} (h : (1 ≤ a ∧ a ≤ 13) ∧ 0 ≤ b ∧ b ≤ 3) : weigh_counted.f a b = some 0 := by
  unfold weigh_counted.f
  simp [within_is, h]
theorem counted_out {a b : Int} (h : ¬ ((1 ≤ a ∧ a ≤ 13) ∧ 0 ≤ b ∧ b ≤ 3)) : weigh_counted.f a b = some 1 := by
  unfold weigh_counted.f
  simp only [within_is, Option.bind_some, decide_eq_true_eq]
  by_cases h1 : 1 ≤ a ∧ a ≤ 13
  · rw [if_pos h1, if_neg (fun h2 => h ⟨h1, h2⟩)]
  · rw [if_neg h1]
theorem numbered_in {a b : Int} (h : (1 ≤ a ∧ a ≤ 13) ∧ 0 ≤ b ∧ b ≤ 3) : verditerref06_numbered.f a b = some 0 := by
  unfold verditerref06_numbered.f
  simp [rwithin_is, h]
theorem numbered_out {a b : Int} (h : ¬ ((1 ≤ a ∧ a ≤ 13) ∧ 0 ≤ b ∧ b ≤ 3)) : verditerref06_numbered.f a b = some 1 := by
  unfold verditerref06_numbered.f
  simp only [rwithin_is, Option.bind_some, decide_eq_true_eq]
  by_cases h1 : 1 ≤ a ∧ a ≤ 13
  · rw [if_pos h1, if_neg (fun h2 => h ⟨h1, h2⟩)]
  · rw [if_neg h1]
/-- The greatest number, n at most. -/
def topM (w : Nat) : Nat → Nat
  | 0 => 0
  | n + 1 => if tblM w (n + 1) then n + 1 else topM w n
theorem topM_ge : ∀ w, w < 4 → ∀ i, i < 13 → tblM w (i + 1) = true → i + 1 ≤ topM w 13 := by decide
theorem most_l0 (w : Nat) (hw : w < 4) : ∀ n k, n ≤ 13 → n < k → weigh_Most.l0 k w n = some (((topM w n : Nat) : Int), 0)
  | 0, k + 1, _, _ => by simp [weigh_Most.l0, topM]
  | n + 1, k + 1, h, hk => by
    unfold weigh_Most.l0
    rw [if_pos (by omega), search_2 w (n + 1) hw (by omega) h]
    simp only [Option.bind_some]
    unfold topM
    cases ht : tblM w (n + 1) with
    | true => simp
    | false =>
      simp only [Bool.false_eq_true, if_false]
      rw [show wrap64 (((n + 1 : Nat) : Int) - 1) = (n : Int) by unfold wrap64; omega]
      exact most_l0 w hw n k (by omega) (by omega)
theorem rmost_l0 (w : Nat) (hw : w < 4) : ∀ n k, n ≤ 13 → n < k → verditerref06_Most.l0 k w n = some (((topM w n : Nat) : Int), 0)
  | 0, k + 1, _, _ => by simp [verditerref06_Most.l0, topM]
  | n + 1, k + 1, h, hk => by
    unfold verditerref06_Most.l0
    rw [if_pos (by omega), can_2 w (n + 1) hw (by omega) h]
    simp only [Option.bind_some]
    unfold topM
    cases ht : tblM w (n + 1) with
    | true => simp
    | false =>
      simp only [Bool.false_eq_true, if_false]
      rw [show wrap64 (((n + 1 : Nat) : Int) - 1) = (n : Int) by unfold wrap64; omega]
      exact rmost_l0 w hw n k (by omega) (by omega)
/-- What both answer to CanTell. -/
def canT (a b : Int) : Bool × Int := if (1 ≤ a ∧ a ≤ 13) ∧ 0 ≤ b ∧ b ≤ 3 then (tblM b.toNat a.toNat, 0) else (false, 1)
theorem canTell_is (a b : Int) : weigh_CanTell.f a b = some (canT a b) := by
  unfold weigh_CanTell.f canT
  by_cases h : (1 ≤ a ∧ a ≤ 13) ∧ 0 ≤ b ∧ b ≤ 3
  · rw [counted_in h, if_pos h]
    obtain ⟨n, rfl⟩ := Int.eq_ofNat_of_zero_le (show 0 ≤ a by omega)
    obtain ⟨w, rfl⟩ := Int.eq_ofNat_of_zero_le h.2.1
    simp only [Option.bind_some, if_true]
    rw [search_2 w n (by omega) (by omega) (by omega)]
    rfl
  · rw [counted_out h, if_neg h]; rfl
theorem rcanTell_is (a b : Int) : verditerref06_CanTell.f a b = some (canT a b) := by
  unfold verditerref06_CanTell.f canT
  by_cases h : (1 ≤ a ∧ a ≤ 13) ∧ 0 ≤ b ∧ b ≤ 3
  · rw [numbered_in h, if_pos h]
    obtain ⟨n, rfl⟩ := Int.eq_ofNat_of_zero_le (show 0 ≤ a by omega)
    obtain ⟨w, rfl⟩ := Int.eq_ofNat_of_zero_le h.2.1
    simp only [Option.bind_some, if_true]
    rw [can_2 w n (by omega) (by omega) (by omega)]
    rfl
  · rw [numbered_out h, if_neg h]; rfl
end Go.Proofs.Ytdbeochifofdoaa.X
end

section
namespace Go.Proofs.Ytdbeochifofdoaa.X
open Go.RowKit Go.Proofs.YtdbeochifofdoaaW.PrintWords Go.Proofs.YtdbeochifofdoaaW.PrintLast
theorem known_at : ∀ k, verditerlaw06_known.f (20 + k) = some true
  | 0 => known_true
  | k + 1 => verditerlaw06_known.mono (20 + k) _ (known_at k)
theorem known_k {k : Nat} (h : 20 ≤ k) : verditerlaw06_known.f k = some true := by
  have := known_at (k - 20)
  rwa [show 20 + (k - 20) = k by omega] at this
end Go.Proofs.Ytdbeochifofdoaa.X
namespace Go.Proofs.Ytdbeochifofdoaa.Pure
open Go.RowKit Go.Proofs.Ytdbeochifofdoaa.X Go.Proofs.YtdbeochifofdoaaW.PrintWords Go.Proofs.YtdbeochifofdoaaW.PrintLast
theorem WeighTells (lots : Int) (l : List S53) (hl : l.length < 9223372036854775807) : ∃ k, verditerlaw06_weighTells.f k lots l = some true := by
  refine ⟨3000, ?_⟩
  unfold verditerlaw06_weighTells.f
  rw [long_f l hl 3000 (by omega), Option.bind_some]
  cases hb : longB l with
  | true => rw [if_pos rfl, known_k (by omega)]; rfl
  | false =>
    have hs := (long_not hb).2
    rw [if_neg (by simp), refTells_f lots l hl hs 3000 (by omega), Option.bind_some, Tells_f, Option.bind_some]
    simp [known_k (show 20 ≤ 3000 by omega)]
end Go.Proofs.Ytdbeochifofdoaa.Pure
end

section
/-! The row of the law WeighTells (after the rows that print.py writes). -/
namespace Go.Proofs.Ytdbeochifofdoaa.weighTells
open Go.ChangeShapes Go.WideShapes Go.ChangeAt Go.RowKit
open Go.ChangeMaps (open_string shut_string)
set_option linter.unusedVariables false
theorem own : ownKnob Try.prog.godebug = none := by kernel_rfl
theorem laidOut : laidOutB Try.prog = true := by kernel_rfl
set_option maxRecDepth 100000 in
theorem lifted (os : Os) (started : os.Started) (H : Type) (enc : TypeId × Value → H) :
    ReturnsInHanded {} Try.checked os 3 .any (Rows.weighTellsSpec.pre6 enc Try.prog Try.f3 Rows.weighTellsRow.domain false) (Rows.weighTellsSpec.post enc Try.prog Try.f3 false true false false) := by
  refine returnsInHanded_of_change_sized (C := Try.checked) own started (by kernel_rfl) Try.func3
    (ChangeSpec.witness6 (enc := enc) (C := Try.checked) false ⟨#[], #[.int .i64 0, .slice none 0 0], []⟩ 8 (by kernel_rfl) (by kernel_rfl) (by kernel_rfl) (by kernel_rfl)) ?_
  intro W base args ds gs before hval0 hW hcnd hsz0 _
  have hsz : (DataW.weightsEach Try.prog (Try.f3.params.toList ++ Rows.weighTellsSpec.plain.varTypes Try.prog) (ds ++ gs)).all (· ≤ reachBytes) = true := hsz0
  have hval : ∀ (j : Nat) t v, Try.f3.params[j]? = some t → args[j]? = some v → Value.okWide Try.prog W .any base t v := hval0
  have hW' := hW
  obtain ⟨p, q, hA0, hV, rfl, hfz, hnd⟩ := hW
  have hA : DataW.TrodAll enc Try.prog W 0 (fun _ => true) true Try.f3.params.toList args.toList ds p := hA0
  rw [Try.params3] at hA hval hsz
  obtain ⟨v0, vs0, d0, ds0, p0, q0, hargs, rfl, rfl, h0, r0⟩ := trodAll_cons hA
  obtain ⟨v1, vs1, d1, ds1, p1, q1, rfl, rfl, rfl, h1, r1⟩ := trodAll_cons r0
  obtain ⟨rfl, rfl, rfl⟩ := trodAll_nil r1
  obtain rfl : args = #[v0, v1] := by cases args; simp_all
  obtain ⟨rfl, rfl⟩ := trodVars_none hV
  obtain ⟨a0, rfl, rfl, rfl, w0⟩ := open_int Try.underlying3 (hval 0 3 v0 rfl rfl) h0
  obtain ⟨a1, len1, cap1, rfl⟩ := okWide_slice Try.underlying22 (hval 1 22 v1 rfl rfl)
  have k1 := h1
  have lt1 : ∀ x ∈ p1, x.block < W.heap.size := by obtain ⟨m, hm⟩ := k1; exact DataW.trod_lt m _ _ _ hm
  obtain ⟨A, l, ys, e1, hle, hyl, hC, hF, hys, hl⟩ := X.open_plan h1 rfl (fun n hn => by
    have := List.all_eq_true.1 hsz n (DataW.weights_mem_each (j := 1) (t := 22) (d := d1) rfl rfl n hn)
    simpa using this)
  obtain ⟨rfl, rfl, rfl⟩ : a1 = A ∧ len1 = l.length ∧ cap1 = ys.length := by injection e1 with h1 h2 h3; exact ⟨h1, h2, h3⟩
  clear hA0 hval0 hsz0 hsz
  obtain ⟨k, hk⟩ := Pure.WeighTells a0 l (by omega)
  refine (X.weighTells_calls k a0 a1 l ys W hC hle hF hyl hys hk).mono fun e W' ⟨he, bel⟩ => ?_
  subst he
  exact ⟨_, rfl, _, _, _, [], _, [], hW', trodAll_mk1 (shut_bool Try.underlying4 _), (trodAll_cons_mk (shut_int Try.underlying3 w0) (trodAll_cons_mk (Below.trod laidOut (by kernel_rfl) (of_decide_eq_true (by kernel_rfl)) k1 bel lt1) trodAll_mk0)), rfl, bel.frame _, fun h => by cases h⟩
theorem over : Rows.weighTellsRow.holds Try.pinned (OpenSpec.ofChange Rows.weighTellsSpec) :=
  OpenClaim.holds_of_wide 3 Try.f3 rfl rfl rfl rfl rfl rfl rfl ⟨rfl, rfl, rfl, rfl, rfl⟩ rfl rfl rfl rfl rfl (by kernel_rfl) Try.func3 (by kernel_rfl)
    (of_decide_eq_true (by kernel_rfl)) (by unfold Func.isWrapper; first | (rw [if_pos (by decide +kernel)]; kernel_rfl) | (rw [if_neg (by decide +kernel)]; exact ⟨rfl, rfl⟩))
    (fun os started H enc _ => lifted os started H enc)
theorem proved : Rows.WeighTellsSaid := over
end Go.Proofs.Ytdbeochifofdoaa.weighTells
namespace Go.Proofs.Ytdbeochifofdoaa
/-- The row, under a short name, for the claim. -/
theorem weighTells_holds : Rows.WeighTellsSaid := weighTells.proved
end Go.Proofs.Ytdbeochifofdoaa
end
