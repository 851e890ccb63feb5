/- Rename gives the lots other numbers, for all plans and lists, and the plan tells as well.
Its conditions: none beyond the statement's own. Part 1 of 5 of the proof. -/
import Derived.Test.YtdbeochifofdoaaProg
import Derived.Below
import Derived.Deep.Draws
import Derived.Deep.AppendLies
import Derived.Maps.AppendAt
import Derived.OwnWalk
import Derived.Laws.BytesArg
import Derived.Laws.MakeOwn
import Derived.Laws.OwnMore
import Derived.Deep.OwnRows
import Derived.Tactics
import Derived.Lib.ConvBytes
import Derived.Laws.Slices
import Derived.WalkKit
import Derived.KernelRfl
import Derived.RowKit3
import Derived.Deep.LoopGhost
import Derived.Deep.QuietTactic
import Derived.BigQuiet
import Derived.WideLaws
import Derived.Deep.DeepCutAuto
import Derived.Deep.CutBlock
import Derived.Deep.RegionHeld3
import Derived.Laws.Rows
import Derived.Lib.AppendStr
import Derived.ArgAppend
import Derived.Laws.IdiomCopy
import Derived.OrdersHeld
import Derived.Laws.BitsLemmas
import Derived.RowKit
import Derived.Test.YtdbeochifofdoaaWWords
import Derived.Test.YtdbeochifofdoaaWLast
import Derived.Test.YtdbeochifofdoaaWTab
import Derived.Test.YtdbeochifofdoaaWFour
import Derived.Test.YtdbeochifofdoaaWQPut
import Derived.Test.YtdbeochifofdoaaWApart
import Derived.Test.YtdbeochifofdoaaWArr
import Derived.Test.YtdbeochifofdoaaWZeros
import Derived.Test.YtdbeochifofdoaaWFoot
import Derived.Test.YtdbeochifofdoaaWKept
import Derived.Test.YtdbeochifofdoaaWShare
import Derived.Test.YtdbeochifofdoaaWN
import Derived.Test.YtdbeochifofdoaaWFootNe
import Derived.Test.YtdbeochifofdoaaWAt
import Derived.Test.YtdbeochifofdoaaWEqStruct
import Derived.Test.YtdbeochifofdoaaWRepsOne
import Derived.Test.YtdbeochifofdoaaWInv
import Derived.Test.YtdbeochifofdoaaWInvWords
import Derived.Test.YtdbeochifofdoaaWGuard
import Derived.Test.YtdbeochifofdoaaWNEv
import Derived.Test.YtdbeochifofdoaaWMore
import Derived.Handy
import Derived.WalkSpells
import Derived.Shelf.Abstract
import Derived.Test.YtdbeochifofdoaaRz0
section
-- Written by a program of this session (wip/hook.py, which runs the kit's print.py with contracts proved by hand). Not trusted: Lean checks it.
namespace Go.Proofs.Ytdbeochifofdoaa.X
open Go.RowKit Go.Proofs.YtdbeochifofdoaaW.PrintWords Go.Proofs.YtdbeochifofdoaaW.PrintLast Go.Proofs.YtdbeochifofdoaaW.PrintMore
attribute [local go_sem] max2_int min2_int max_two min_two max_three min_three max_four min_four   -- for this text's walks alone
set_option linter.unusedVariables false
set_option linter.unusedSimpArgs false



def errW : Option Int → Value
  | none => .nilIface
  | some c => .iface 0 (.int .i64 c)
theorem errW_none : errW none = .nilIface := rfl
theorem errW_some (c : Int) : errW (some c) = .iface 0 (.int .i64 c) := rfl

theorem info3 : (Try.prog.info? 3).map (fun i => (i.zero, i.size, i.bytes)) = some (some (.int .i64 0), 1, 8) := by kernel_rfl
theorem info43 : (Try.prog.info? 43).map (fun i => (i.zero, i.size, i.bytes)) = some (some (.slice none 0 0), 1, 24) := by kernel_rfl
theorem info53 : (Try.prog.info? 53).map (fun i => (i.zero, i.size, i.bytes)) = some (some (.agg #[(.slice none 0 0), (.slice none 0 0)]), 2, 48) := by kernel_rfl
theorem info70 : (Try.prog.info? 70).map (fun i => (i.zero, i.size, i.bytes)) = some (some (.agg #[(.int .i64 0), (.int .i64 0), (.int .i64 0)]), 3, 24) := by kernel_rfl
theorem info92 : (Try.prog.info? 92).map (fun i => (i.zero, i.size, i.bytes)) = some (some (.int .i64 0), 1, 8) := by kernel_rfl
-- the values' own types
/-! #### struct type 70 -/
structure S70 where
  f0 : Int
  f1 : Int
  f2 : Int
def z70 : S70 := ⟨(0 : Int), (0 : Int), (0 : Int)⟩
def k70 : Kd S70 := Kd.iso (Kd.pair (Kd.int .i64) (Kd.pair (Kd.int .i64) (Kd.int .i64))) (fun x : S70 => (x.f0, x.f1, x.f2))
theorem k70_open {w : World} {x : S70} {cs : List Value} (h : k70.K w x cs) : cs = [.int .i64 x.f0, .int .i64 x.f1, .int .i64 x.f2] := by
  obtain ⟨_, _, rfl, rfl, ⟨_, _, rfl, rfl, rfl⟩⟩ := h
  exact rfl
theorem k70_mkM (w : World) (base : Nat) (ok : Nat → Prop) (x : S70)  : k70.M w base ok x [.int .i64 x.f0, .int .i64 x.f1, .int .i64 x.f2] := ⟨[.int .i64 x.f0], [.int .i64 x.f1, .int .i64 x.f2], rfl, rfl, ⟨[.int .i64 x.f1], [.int .i64 x.f2], rfl, rfl, rfl⟩⟩
def rd_T70 (xs : List S70) (i : Int) : S70 := xs.getD i.toNat z70
theorem at_T70 {w : World} {A : Option Addr} {n : Nat} {xs : List S70} (h : Kd.C k70 w A n xs) (i : Int) (h0 : 0 ≤ i) (h1 : i < n) : ∃ ad , A = some ad ∧ w.cell? (ad.add (i.toNat * 3)) = some (.int .i64 (rd_T70 xs i).f0) ∧ w.cell? ⟨(ad.add (i.toNat * 3)).block, (ad.add (i.toNat * 3)).off + 1, none⟩ = some (.int .i64 (rd_T70 xs i).f1) ∧ w.cell? ⟨(ad.add (i.toNat * 3)).block, (ad.add (i.toNat * 3)).off + 2, none⟩ = some (.int .i64 (rd_T70 xs i).f2) := by
  obtain ⟨ad, c, e, _, hK, hc0⟩ := Kd.C_get h z70 i h0 h1
  have hc : ∀ j u, c[j]? = some u → w.cell? (ad.add (i.toNat * 3 + j)) = some u := hc0
  obtain rfl := k70_open hK
  exact ⟨ad, e, hc 0 _ rfl, by rw [← add_field _ _ 1 (by omega)]; exact hc 1 _ rfl, by rw [← add_field _ _ 2 (by omega)]; exact hc 2 _ rfl⟩

def rd_L5 (xs : List (List Int)) (i : Int) : (List Int) := xs.getD i.toNat ([] : List Int)
theorem at_L5 {w : World} {A : Option Addr} {n : Nat} {xs : List (List Int)} (h : Kd.C (Kd.slice 3 (Kd.int .i64)) w A n xs) (i : Int) (h0 : 0 ≤ i) (h1 : i < n) : ∃ ad A0 c0, A = some ad ∧ w.cell? (ad.add i.toNat) = some (.slice A0 (rd_L5 xs i).length c0) ∧ (rd_L5 xs i).length ≤ c0 ∧ (Kd.int .i64).C w A0 (rd_L5 xs i).length (rd_L5 xs i) := by
  obtain ⟨ad, c, e, _, hK, hc0⟩ := Kd.C_get h ([] : List Int) i h0 h1
  have hc : ∀ j u, c[j]? = some u → w.cell? (ad.add (i.toNat * 1 + j)) = some u := hc0
  obtain ⟨A0, c0, rfl, l0, g0⟩ := hK
  exact ⟨ad, A0, c0, e, by have hq := hc 0 _ rfl; rwa [Nat.mul_one, Nat.add_zero] at hq, l0, g0⟩

/-! #### struct type 53 -/
structure S53 where
  f0 : (List Int)
  f1 : (List Int)
def z53 : S53 := ⟨([] : List Int), ([] : List Int)⟩
def k53 : Kd S53 := Kd.iso (Kd.pair (Kd.slice 3 (Kd.int .i64)) (Kd.slice 3 (Kd.int .i64))) (fun x : S53 => (x.f0, x.f1))
theorem k53_open {w : World} {x : S53} {cs : List Value} (h : k53.K w x cs) : ∃ A0 c0 A1 c1, cs = [.slice A0 x.f0.length c0, .slice A1 x.f1.length c1] ∧ x.f0.length ≤ c0 ∧ (Kd.int .i64).C w A0 x.f0.length x.f0 ∧ x.f1.length ≤ c1 ∧ (Kd.int .i64).C w A1 x.f1.length x.f1 := by
  obtain ⟨_, _, rfl, ⟨A0, c0, rfl, l0, g0⟩, ⟨A1, c1, rfl, l1, g1⟩⟩ := h
  exact ⟨A0, c0, A1, c1, rfl, l0, g0, l1, g1⟩
theorem k53_openM {w : World} {base : Nat} {ok : Nat → Prop} {x : S53} {cs : List Value} (h : k53.M w base ok x cs) : ∃ v0 v1, cs = [v0, v1] ∧ (Kd.int .i64).R 3 w base ok v0 x.f0 ∧ (Kd.int .i64).R 3 w base ok v1 x.f1 := by
  obtain ⟨_, _, rfl, ⟨v0, rfl, g0⟩, ⟨v1, rfl, g1⟩⟩ := h
  exact ⟨v0, v1, rfl, g0, g1⟩
theorem k53_mk (w : World) (x : S53) {A0 : Option Addr} {c0 : Nat} (l0 : x.f0.length ≤ c0) (g0 : (Kd.int .i64).C w A0 x.f0.length x.f0) {A1 : Option Addr} {c1 : Nat} (l1 : x.f1.length ≤ c1) (g1 : (Kd.int .i64).C w A1 x.f1.length x.f1) : k53.K w x [.slice A0 x.f0.length c0, .slice A1 x.f1.length c1] := ⟨[.slice A0 x.f0.length c0], [.slice A1 x.f1.length c1], rfl, ⟨A0, c0, rfl, l0, g0⟩, ⟨A1, c1, rfl, l1, g1⟩⟩
theorem k53_mkM (w : World) (base : Nat) (ok : Nat → Prop) (x : S53) {v0 : Value} (g0 : (Kd.int .i64).R 3 w base ok v0 x.f0) {v1 : Value} (g1 : (Kd.int .i64).R 3 w base ok v1 x.f1) : k53.M w base ok x [v0, v1] := ⟨[v0], [v1], rfl, ⟨v0, rfl, g0⟩, ⟨v1, rfl, g1⟩⟩
theorem k53_mkF (W : World) (ok : Nat → Prop) (x : S53) {A0 : Option Addr} {c0 : Nat} (l0 : x.f0.length ≤ c0) (g0 : Kd.F (Kd.int .i64) W ok A0 x.f0.length x.f0) {A1 : Option Addr} {c1 : Nat} (l1 : x.f1.length ≤ c1) (g1 : Kd.F (Kd.int .i64) W ok A1 x.f1.length x.f1) : Kd.FK k53 W ok x [.slice A0 x.f0.length c0, .slice A1 x.f1.length c1] := fun W2 hW => k53_mk W2 x l0 (g0 W2 hW) l1 (g1 W2 hW)
def rd_T53 (xs : List S53) (i : Int) : S53 := xs.getD i.toNat z53
theorem at_T53 {w : World} {A : Option Addr} {n : Nat} {xs : List S53} (h : Kd.C k53 w A n xs) (i : Int) (h0 : 0 ≤ i) (h1 : i < n) : ∃ ad A0 c0 A1 c1, A = some ad ∧ w.cell? (ad.add (i.toNat * 2)) = some (.slice A0 (rd_T53 xs i).f0.length c0) ∧ w.cell? ⟨(ad.add (i.toNat * 2)).block, (ad.add (i.toNat * 2)).off + 1, none⟩ = some (.slice A1 (rd_T53 xs i).f1.length c1) ∧ (rd_T53 xs i).f0.length ≤ c0 ∧ (Kd.int .i64).C w A0 (rd_T53 xs i).f0.length (rd_T53 xs i).f0 ∧ (rd_T53 xs i).f1.length ≤ c1 ∧ (Kd.int .i64).C w A1 (rd_T53 xs i).f1.length (rd_T53 xs i).f1 := by
  obtain ⟨ad, c, e, _, hK, hc0⟩ := Kd.C_get h z53 i h0 h1
  have hc : ∀ j u, c[j]? = some u → w.cell? (ad.add (i.toNat * 2 + j)) = some u := hc0
  obtain ⟨A0, c0, A1, c1, rfl, l0, g0, l1, g1⟩ := k53_open hK
  exact ⟨ad, A0, c0, A1, c1, e, hc 0 _ rfl, by rw [← add_field _ _ 1 (by omega)]; exact hc 1 _ rfl, l0, g0, l1, g1⟩

/-! #### struct type 35 -/
structure S35 where
  f0 : Int
  f1 : Int
/-! #### struct type 69 -/
structure S69 where
  f0 : Int
  f1 : Int
  f2 : Int
end Go.Proofs.Ytdbeochifofdoaa.X
end

section
-- Written by a program of this session (wip/hook.py, which runs the kit's print.py with contracts proved by hand). Not trusted: Lean checks it.
namespace Go.Proofs.Ytdbeochifofdoaa.X
open Go.RowKit Go.Proofs.YtdbeochifofdoaaW.PrintWords Go.Proofs.YtdbeochifofdoaaW.PrintLast Go.Proofs.YtdbeochifofdoaaW.PrintMore
attribute [local go_sem] max2_int min2_int max_two min_two max_three min_three max_four min_four   -- for this text's walks alone
set_option linter.unusedVariables false
set_option linter.unusedSimpArgs false

-- NOT PRINTED: function 33 (verditerref01_KeepInts)

-- NOT PRINTED: function 17 (verditerref01_KeepWeighings)

/-! ### weigh_within: function 85 -/
def weigh_within.f (a0 : Int) (a1 : Int) (a2 : Int) : Option (Bool) := if a0 ≥ a1 then (some (decide (a0 ≤ a2))) else (some false)
set_option maxHeartbeats 8000000 in
set_option maxRecDepth 100000 in
theorem weigh_within.calls (a0 : Int) (a1 : Int) (a2 : Int) (r : Bool) (w : World) (h : weigh_within.f a0 a1 a2 = some r) :
    Calls Try.prog 85 #[.int .i64 a0, .int .i64 a1, .int .i64 a2] w fun e w' => e = .returned (.bool r) ∧ Drawn0 w w' := by
  have H : (if a0 ≥ a1 then (some (decide (a0 ≤ a2))) else (some false)) = some r := h
  clear h
  by_cases c4 : a0 ≥ a1
  · rw [if_pos c4] at H
    have c4b0 : decide (a1 ≤ a0) = true := decide_eq_true c4
    clear c4
    obtain rfl := Option.some.inj H
    go_enter Try.func85, Try.ntmps85
    go_wp2
    go_ret
    exact ⟨by first | rfl | (simp; done) | (simp [*]; done), by repeat (first | exact Drawn0.refl _ | apply Drawn0.step)⟩
  · rw [if_neg c4] at H
    have c4b0 : decide (a1 ≤ a0) = false := decide_eq_false c4
    clear c4
    obtain rfl := Option.some.inj H
    go_enter Try.func85, Try.ntmps85
    go_wp2
    go_ret
    exact ⟨by first | rfl | (simp; done) | (simp [*]; done), by repeat (first | exact Drawn0.refl _ | apply Drawn0.step)⟩

/-! ### weigh_counted: function 49 -/
def weigh_counted.f (a0 : Int) (a1 : Int) : Option (Int) := (weigh_within.f a0 1 13).bind fun t104 => (if t104 = true then ((weigh_within.f a1 0 3).bind fun t105 => (if t105 = true then (some 0) else (some 1))) else (some 1))
set_option maxHeartbeats 8000000 in
set_option maxRecDepth 100000 in
theorem weigh_counted.calls (a0 : Int) (a1 : Int) (r : Int) (w : World) (h : weigh_counted.f a0 a1 = some r) :
    Calls Try.prog 49 #[.int .i64 a0, .int .i64 a1] w fun e w' => e = .returned (.int .i64 r) ∧ Drawn0 w w' := by
  have H : ((weigh_within.f a0 1 13).bind fun t104 => (if t104 = true then ((weigh_within.f a1 0 3).bind fun t105 => (if t105 = true then (some 0) else (some 1))) else (some 1))) = some r := h
  clear h
  replace H := Option.bind_eq_some_iff.mp H
  obtain ⟨t104, A30, H⟩ := H
  replace H : (if t104 = true then ((weigh_within.f a1 0 3).bind fun t105 => (if t105 = true then (some 0) else (some 1))) else (some 1)) = some r := H
  have A3 := Aside0.mk A30
  clear A30
  by_cases c4 : t104 = true
  · subst c4
    have H1 : ((weigh_within.f a1 0 3).bind fun t105 => (if t105 = true then (some 0) else (some 1))) = some r := by rw [if_pos rfl] at H; exact H
    clear H
    have H := H1
    clear H1
    replace H := Option.bind_eq_some_iff.mp H
    obtain ⟨t105, A50, H⟩ := H
    replace H : (if t105 = true then (some 0) else (some 1)) = some r := H
    have A5 := Aside0.mk A50
    clear A50
    by_cases c6 : t105 = true
    · subst c6
      have H1 : (some 0) = some r := by rw [if_pos rfl] at H; exact H
      clear H
      have H := H1
      clear H1
      obtain rfl := Option.some.inj H
      go_enter Try.func49, Try.ntmps49
      go_wp2_with (first | ((with_reducible refine gate_callee (f := 85) rfl ?_); refine goesL_ (some 6) rfl rfl Try.func85 (by kernel_rfl) rfl #[.int .i64 a0, .int .i64 1, .int .i64 13] rfl (by (try simp only [List.map_toArray, List.map_cons, List.map_nil]); first | done | rfl | (simp only [List.length_drop, List.length_take]; rfl)) ?_; (with_reducible refine (weigh_within.calls a0 1 13 true _ A3.out).mono ?_); rintro e w' ⟨rfl, ⟨nd, rfl⟩⟩; refine ⟨_, rfl, ?_⟩) | (go_at_call 85; (with_reducible refine (weigh_within.calls a1 0 3 true _ A5.out).mono ?_); rintro e w' ⟨rfl, ⟨nd, rfl⟩⟩))
      go_ret
      exact ⟨by first | rfl | (simp; done) | (simp [*]; done), by repeat (first | exact Drawn0.refl _ | apply Drawn0.step)⟩
    · replace c6 := Bool.eq_false_iff.mpr c6
      subst c6
      have H1 : (some 1) = some r := by rw [if_neg (show ¬ (false = true) by decide)] at H; exact H
      clear H
      have H := H1
      clear H1
      obtain rfl := Option.some.inj H
      go_enter Try.func49, Try.ntmps49
      go_wp2_with (first | ((with_reducible refine gate_callee (f := 85) rfl ?_); refine goesL_ (some 6) rfl rfl Try.func85 (by kernel_rfl) rfl #[.int .i64 a0, .int .i64 1, .int .i64 13] rfl (by (try simp only [List.map_toArray, List.map_cons, List.map_nil]); first | done | rfl | (simp only [List.length_drop, List.length_take]; rfl)) ?_; (with_reducible refine (weigh_within.calls a0 1 13 true _ A3.out).mono ?_); rintro e w' ⟨rfl, ⟨nd, rfl⟩⟩; refine ⟨_, rfl, ?_⟩) | (go_at_call 85; (with_reducible refine (weigh_within.calls a1 0 3 false _ A5.out).mono ?_); rintro e w' ⟨rfl, ⟨nd, rfl⟩⟩))
      go_ret
      exact ⟨by first | rfl | (simp; done) | (simp [*]; done), by repeat (first | exact Drawn0.refl _ | apply Drawn0.step)⟩
  · replace c4 := Bool.eq_false_iff.mpr c4
    subst c4
    have H1 : (some 1) = some r := by rw [if_neg (show ¬ (false = true) by decide)] at H; exact H
    clear H
    have H := H1
    clear H1
    obtain rfl := Option.some.inj H
    go_enter Try.func49, Try.ntmps49
    go_wp2_with (first | ((with_reducible refine gate_callee (f := 85) rfl ?_); refine goesL_ (some 6) rfl rfl Try.func85 (by kernel_rfl) rfl #[.int .i64 a0, .int .i64 1, .int .i64 13] rfl (by (try simp only [List.map_toArray, List.map_cons, List.map_nil]); first | done | rfl | (simp only [List.length_drop, List.length_take]; rfl)) ?_; (with_reducible refine (weigh_within.calls a0 1 13 false _ A3.out).mono ?_); rintro e w' ⟨rfl, ⟨nd, rfl⟩⟩; refine ⟨_, rfl, ?_⟩))
    go_ret
    exact ⟨by first | rfl | (simp; done) | (simp [*]; done), by repeat (first | exact Drawn0.refl _ | apply Drawn0.step)⟩

-- GIVEN: function 86 (weigh_classes): YtdbeochifofdoaaG86

end Go.Proofs.Ytdbeochifofdoaa.X
end

section
-- Written by a program of this session (wip/hook.py, which runs the kit's print.py with contracts proved by hand). Not trusted: Lean checks it.
namespace Go.Proofs.Ytdbeochifofdoaa.X
open Go.RowKit Go.Proofs.YtdbeochifofdoaaW.PrintWords Go.Proofs.YtdbeochifofdoaaW.PrintLast Go.Proofs.YtdbeochifofdoaaW.PrintMore
attribute [local go_sem] max2_int min2_int max_two min_two max_three min_three max_four min_four   -- for this text's walks alone
set_option linter.unusedVariables false
set_option linter.unusedSimpArgs false

/-! ### weigh_isSet: function 96 -/
def weigh_isSet.l0 : Nat → List Int → Int → List Int → Int → Int → Option (Bool)
  | 0, _, _, _, _, _ => none
  | k + 1, x0, x1, x7, x8, x9 => if x9 < x8 then (if 0 ≤ x9 then (if x9 < (x7.length : Int) then ((weigh_within.f (rd x7 x9) 0 (wrap64 (x1 - 1))).bind fun t126 => (if t126 = true then (if x9 > 0 then (if 0 ≤ (wrap64 (x9 - 1)) then (if (wrap64 (x9 - 1)) < (x0.length : Int) then (if (rd x0 (wrap64 (x9 - 1))) ≥ (rd x7 x9) then (some false) else (weigh_isSet.l0 k x0 x1 x7 x8 (wrap64 (x9 + 1)))) else (none)) else (none)) else (weigh_isSet.l0 k x0 x1 x7 x8 (wrap64 (x9 + 1)))) else (some false))) else (none)) else (none)) else (some true)
def weigh_isSet.f (k : Nat) (l0 : List Int) (a1 : Int) : Option (Bool) := weigh_isSet.l0 k l0 a1 l0 (l0.length : Int) 0
set_option maxHeartbeats 8000000 in
set_option maxRecDepth 100000 in
theorem weigh_isSet.calls (k : Nat) (A0 : Option Addr) (c0 : Nat) (l0 : List Int) (a1 : Int) (r : Bool) (w : World) (hr0 : Kd.C (Kd.int .i64) w A0 l0.length l0) (hc0 : l0.length ≤ c0) (h : weigh_isSet.f k l0 a1 = some r) :
    Calls Try.prog 96 #[.slice A0 l0.length c0, .int .i64 a1] w fun e w' => e = .returned (.bool r) ∧ Drawn0 w w' := by
  have HR0 := Aside0.mk hr0
  have HC0 := Aside0.mk hc0
  clear hr0 hc0
  have H : (weigh_isSet.l0 k l0 a1 l0 (l0.length : Int) 0) = some r := h
  clear h
  have H' := Aside0.mk H
  clear H
  go_enter Try.func96, Try.ntmps96
  go_wp2
  go_loopg [9] k (fun kq v9 w' => ∃ (x9_1 : Int), v9 = .int .i64 x9_1 ∧ Aside0 (weigh_isSet.l0 kq l0 a1 l0 (l0.length : Int) x9_1 = some r) ∧ Aside0 (kq ≤ k) ∧ Drawn0 w w')
  case atStart => exact ⟨(0), (by first | rfl | (simp; done) | (simp [*]; done)), H', ⟨Nat.le_refl _⟩, by repeat (first | exact Drawn0.refl _ | apply Drawn0.step)⟩
  case round =>
    clear H'
    try clear p2
    obtain ⟨x9_1, rfl, HA, HK1, ⟨m1, rfl⟩⟩ := hrel
    cases gk with
    | zero => exact absurd HA.out (by simp [weigh_isSet.l0])
    | succ k1 =>
      have H := HA.out
      clear HA
      simp only [weigh_isSet.l0] at H
      by_cases c3 : x9_1 < (l0.length : Int)
      · rw [if_pos c3] at H
        have c3b0 : decide (x9_1 < (l0.length : Int)) = true := decide_eq_true c3
        clear c3
        by_cases c4 : 0 ≤ x9_1
        · rw [if_pos c4] at H
          have c4b0 : decide (0 ≤ x9_1) = true := decide_eq_true c4
          clear c4
          by_cases c5 : x9_1 < (l0.length : Int)
          · rw [if_pos c5] at H
            have c5b0 : decide (x9_1 < (l0.length : Int)) = true := decide_eq_true c5
            clear c5
            replace H := Option.bind_eq_some_iff.mp H
            obtain ⟨t126, A60, H⟩ := H
            replace H : (if t126 = true then (if x9_1 > 0 then (if 0 ≤ (wrap64 (x9_1 - 1)) then (if (wrap64 (x9_1 - 1)) < (l0.length : Int) then (if (rd l0 (wrap64 (x9_1 - 1))) ≥ (rd l0 x9_1) then (some false) else (weigh_isSet.l0 k1 l0 a1 l0 (l0.length : Int) (wrap64 (x9_1 + 1)))) else (none)) else (none)) else (weigh_isSet.l0 k1 l0 a1 l0 (l0.length : Int) (wrap64 (x9_1 + 1)))) else (some false)) = some r := H
            have A6 := Aside0.mk A60
            clear A60
            by_cases c7 : t126 = true
            · subst c7
              have H1 : (if x9_1 > 0 then (if 0 ≤ (wrap64 (x9_1 - 1)) then (if (wrap64 (x9_1 - 1)) < (l0.length : Int) then (if (rd l0 (wrap64 (x9_1 - 1))) ≥ (rd l0 x9_1) then (some false) else (weigh_isSet.l0 k1 l0 a1 l0 (l0.length : Int) (wrap64 (x9_1 + 1)))) else (none)) else (none)) else (weigh_isSet.l0 k1 l0 a1 l0 (l0.length : Int) (wrap64 (x9_1 + 1)))) = some r := by rw [if_pos rfl] at H; exact H
              clear H
              have H := H1
              clear H1
              by_cases c8 : x9_1 > 0
              · rw [if_pos c8] at H
                have c8b0 : decide (0 < x9_1) = true := decide_eq_true c8
                clear c8
                obtain ⟨ji9, hji9⟩ : ∃ j_ : Int, (wrap64 (x9_1 - 1)) = j_ := ⟨_, rfl⟩
                replace H : (if 0 ≤ (ji9) then (if (ji9) < (l0.length : Int) then (if (rd l0 (ji9)) ≥ (rd l0 x9_1) then (some false) else (weigh_isSet.l0 k1 l0 a1 l0 (l0.length : Int) (wrap64 (x9_1 + 1)))) else (none)) else (none)) = some r := by first | (rw [hji9] at H; exact H) | (simp only [hji9] at H ⊢; exact H)
                (try rw [hji9] at A6)
                have hji9w : (IntKind.i64.wrap (x9_1 - 1)) = ji9 := (i64_w _).trans hji9
                by_cases c10 : 0 ≤ (ji9)
                · rw [if_pos c10] at H
                  have c10b0 : decide (0 ≤ (ji9)) = true := decide_eq_true c10
                  clear c10
                  by_cases c11 : (ji9) < (l0.length : Int)
                  · rw [if_pos c11] at H
                    have c11b0 : decide ((ji9) < (l0.length : Int)) = true := decide_eq_true c11
                    clear c11
                    by_cases c12 : (rd l0 (ji9)) ≥ (rd l0 x9_1)
                    · rw [if_pos c12] at H
                      have c12b0 : decide ((rd l0 x9_1) ≤ (rd l0 (ji9))) = true := decide_eq_true c12
                      clear c12
                      obtain rfl := Option.some.inj H
                      have p125 : 0 ≤ (x9_1 : Int) := of_decide_eq_true (by first | (with_reducible assumption) | assumption)
                      have q125 : x9_1 < (l0.length : Int) := of_decide_eq_true (by first | (with_reducible assumption) | assumption)
                      obtain ⟨ad125, e125, hx125_0⟩ := Kd.at_int HR0.out x9_1 p125 q125
                      cases e125
                      replace p125 := eq_true p125
                      replace q125 := eq_true q125
                      go_wp2_with (first | ((with_reducible refine gate_callee (f := 85) rfl ?_); refine goesL_ (some 17) rfl rfl Try.func85 (by kernel_rfl) rfl #[.int .i64 (rd l0 x9_1), .int .i64 0, .int .i64 (wrap64 (a1 - 1))] rfl (by (try simp only [List.map_toArray, List.map_cons, List.map_nil]); first | done | rfl | (simp only [List.length_drop, List.length_take]; rfl)) ?_; (with_reducible refine (weigh_within.calls (rd l0 x9_1) 0 (wrap64 (a1 - 1)) true _ A6.out).mono ?_); rintro e w' ⟨rfl, ⟨nd, rfl⟩⟩; refine ⟨_, rfl, ?_⟩; have p127 : 0 ≤ ((ji9) : Int) := of_decide_eq_true (by first | (with_reducible assumption) | assumption); have q127 : (ji9) < (l0.length : Int) := of_decide_eq_true (by first | (with_reducible assumption) | assumption); obtain ⟨ad127, e127, hx127_0⟩ := Kd.at_int HR0.out (ji9) p127 q127; obtain rfl : ad125 = ad127 := (by injection e127); replace p127 := eq_true p127; replace q127 := eq_true q127))
                      go_ret
                      exact ⟨by first | rfl | (simp; done) | (simp only [← hji9] <;> (first | rfl | simp)) | (simp [*]; done), by repeat (first | exact Drawn0.refl _ | apply Drawn0.step)⟩
                    · rw [if_neg c12] at H
                      have c12b0 : decide ((rd l0 x9_1) ≤ (rd l0 (ji9))) = false := decide_eq_false c12
                      clear c12
                      have H' := Aside0.mk H
                      clear H
                      have p125 : 0 ≤ (x9_1 : Int) := of_decide_eq_true (by first | (with_reducible assumption) | assumption)
                      have q125 : x9_1 < (l0.length : Int) := of_decide_eq_true (by first | (with_reducible assumption) | assumption)
                      obtain ⟨ad125, e125, hx125_0⟩ := Kd.at_int HR0.out x9_1 p125 q125
                      cases e125
                      replace p125 := eq_true p125
                      replace q125 := eq_true q125
                      go_wp2_with (first | ((with_reducible refine gate_callee (f := 85) rfl ?_); refine goesL_ (some 17) rfl rfl Try.func85 (by kernel_rfl) rfl #[.int .i64 (rd l0 x9_1), .int .i64 0, .int .i64 (wrap64 (a1 - 1))] rfl (by (try simp only [List.map_toArray, List.map_cons, List.map_nil]); first | done | rfl | (simp only [List.length_drop, List.length_take]; rfl)) ?_; (with_reducible refine (weigh_within.calls (rd l0 x9_1) 0 (wrap64 (a1 - 1)) true _ A6.out).mono ?_); rintro e w' ⟨rfl, ⟨nd, rfl⟩⟩; refine ⟨_, rfl, ?_⟩; have p127 : 0 ≤ ((ji9) : Int) := of_decide_eq_true (by first | (with_reducible assumption) | assumption); have q127 : (ji9) < (l0.length : Int) := of_decide_eq_true (by first | (with_reducible assumption) | assumption); obtain ⟨ad127, e127, hx127_0⟩ := Kd.at_int HR0.out (ji9) p127 q127; obtain rfl : ad125 = ad127 := (by injection e127); replace p127 := eq_true p127; replace q127 := eq_true q127))
                      go_roundg k1
                      case measure => have := HK1.out; omega
                      case rel => exact ⟨(wrap64 (x9_1 + 1)), (by first | rfl | (simp; done) | (simp [*]; done)), H', ⟨by have := HK1.out; omega⟩, by repeat (first | exact Drawn0.refl _ | apply Drawn0.step)⟩
                  · rw [if_neg c11] at H
                    exact absurd H (by simp)
                · rw [if_neg c10] at H
                  exact absurd H (by simp)
              · rw [if_neg c8] at H
                have c8b0 : decide (0 < x9_1) = false := decide_eq_false c8
                clear c8
                have H' := Aside0.mk H
                clear H
                have p125 : 0 ≤ (x9_1 : Int) := of_decide_eq_true (by first | (with_reducible assumption) | assumption)
                have q125 : x9_1 < (l0.length : Int) := of_decide_eq_true (by first | (with_reducible assumption) | assumption)
                obtain ⟨ad125, e125, hx125_0⟩ := Kd.at_int HR0.out x9_1 p125 q125
                cases e125
                replace p125 := eq_true p125
                replace q125 := eq_true q125
                go_wp2_with (first | ((with_reducible refine gate_callee (f := 85) rfl ?_); refine goesL_ (some 17) rfl rfl Try.func85 (by kernel_rfl) rfl #[.int .i64 (rd l0 x9_1), .int .i64 0, .int .i64 (wrap64 (a1 - 1))] rfl (by (try simp only [List.map_toArray, List.map_cons, List.map_nil]); first | done | rfl | (simp only [List.length_drop, List.length_take]; rfl)) ?_; (with_reducible refine (weigh_within.calls (rd l0 x9_1) 0 (wrap64 (a1 - 1)) true _ A6.out).mono ?_); rintro e w' ⟨rfl, ⟨nd, rfl⟩⟩; refine ⟨_, rfl, ?_⟩))
                go_roundg k1
                case measure => have := HK1.out; omega
                case rel => exact ⟨(wrap64 (x9_1 + 1)), (by first | rfl | (simp; done) | (simp [*]; done)), H', ⟨by have := HK1.out; omega⟩, by repeat (first | exact Drawn0.refl _ | apply Drawn0.step)⟩
            · replace c7 := Bool.eq_false_iff.mpr c7
              subst c7
              have H1 : (some false) = some r := by rw [if_neg (show ¬ (false = true) by decide)] at H; exact H
              clear H
              have H := H1
              clear H1
              obtain rfl := Option.some.inj H
              have p125 : 0 ≤ (x9_1 : Int) := of_decide_eq_true (by first | (with_reducible assumption) | assumption)
              have q125 : x9_1 < (l0.length : Int) := of_decide_eq_true (by first | (with_reducible assumption) | assumption)
              obtain ⟨ad125, e125, hx125_0⟩ := Kd.at_int HR0.out x9_1 p125 q125
              cases e125
              replace p125 := eq_true p125
              replace q125 := eq_true q125
              go_wp2_with (first | ((with_reducible refine gate_callee (f := 85) rfl ?_); refine goesL_ (some 17) rfl rfl Try.func85 (by kernel_rfl) rfl #[.int .i64 (rd l0 x9_1), .int .i64 0, .int .i64 (wrap64 (a1 - 1))] rfl (by (try simp only [List.map_toArray, List.map_cons, List.map_nil]); first | done | rfl | (simp only [List.length_drop, List.length_take]; rfl)) ?_; (with_reducible refine (weigh_within.calls (rd l0 x9_1) 0 (wrap64 (a1 - 1)) false _ A6.out).mono ?_); rintro e w' ⟨rfl, ⟨nd, rfl⟩⟩; refine ⟨_, rfl, ?_⟩))
              go_ret
              exact ⟨by first | rfl | (simp; done) | (simp [*]; done), by repeat (first | exact Drawn0.refl _ | apply Drawn0.step)⟩
          · rw [if_neg c5] at H
            exact absurd H (by simp)
        · rw [if_neg c4] at H
          exact absurd H (by simp)
      · rw [if_neg c3] at H
        have c3b0 : decide (x9_1 < (l0.length : Int)) = false := decide_eq_false c3
        clear c3
        obtain rfl := Option.some.inj H
        go_wp2
        go_ret
        exact ⟨by first | rfl | (simp; done) | (simp [*]; done), by repeat (first | exact Drawn0.refl _ | apply Drawn0.step)⟩

end Go.Proofs.Ytdbeochifofdoaa.X
end

section
-- Written by a program of this session (wip/hook.py, which runs the kit's print.py with contracts proved by hand). Not trusted: Lean checks it.
namespace Go.Proofs.Ytdbeochifofdoaa.X
open Go.RowKit Go.Proofs.YtdbeochifofdoaaW.PrintWords Go.Proofs.YtdbeochifofdoaaW.PrintLast Go.Proofs.YtdbeochifofdoaaW.PrintMore
attribute [local go_sem] max2_int min2_int max_two min_two max_three min_three max_four min_four   -- for this text's walks alone
set_option linter.unusedVariables false
set_option linter.unusedSimpArgs false

/-! ### slices_Index_int_int: function 118 -/
def slices_Index_int_int.l0 : Nat → List Int → Int → Int → Int → Option (Int)
  | 0, _, _, _, _ => none
  | k + 1, x0, x1, x7, x8 => if x8 < x7 then (if 0 ≤ x8 then (if x8 < (x0.length : Int) then (if x1 = (rd x0 x8) then (some x8) else (slices_Index_int_int.l0 k x0 x1 x7 (wrap64 (x8 + 1)))) else (none)) else (none)) else (some (-1))
def slices_Index_int_int.f (k : Nat) (l0 : List Int) (a1 : Int) : Option (Int) := slices_Index_int_int.l0 k l0 a1 (l0.length : Int) 0
set_option maxHeartbeats 8000000 in
set_option maxRecDepth 100000 in
theorem slices_Index_int_int.calls (k : Nat) (A0 : Option Addr) (c0 : Nat) (l0 : List Int) (a1 : Int) (r : Int) (w : World) (hr0 : Kd.C (Kd.int .i64) w A0 l0.length l0) (hc0 : l0.length ≤ c0) (h : slices_Index_int_int.f k l0 a1 = some r) :
    Calls Try.prog 118 #[.slice A0 l0.length c0, .int .i64 a1] w fun e w' => e = .returned (.int .i64 r) ∧ Drawn0 w w' := by
  have HR0 := Aside0.mk hr0
  have HC0 := Aside0.mk hc0
  clear hr0 hc0
  have H : (slices_Index_int_int.l0 k l0 a1 (l0.length : Int) 0) = some r := h
  clear h
  have H' := Aside0.mk H
  clear H
  go_enter Try.func118, Try.ntmps118
  go_wp2
  go_loopg [8] k (fun kq v8 w' => ∃ (x8_1 : Int), v8 = .int .i64 x8_1 ∧ Aside0 (slices_Index_int_int.l0 kq l0 a1 (l0.length : Int) x8_1 = some r) ∧ Aside0 (kq ≤ k) ∧ Drawn0 w w')
  case atStart => exact ⟨(0), (by first | rfl | (simp; done) | (simp [*]; done)), H', ⟨Nat.le_refl _⟩, by repeat (first | exact Drawn0.refl _ | apply Drawn0.step)⟩
  case round =>
    clear H'
    try clear c1
    try clear p2
    obtain ⟨x8_1, rfl, HA, HK1, ⟨m1, rfl⟩⟩ := hrel
    cases gk with
    | zero => exact absurd HA.out (by simp [slices_Index_int_int.l0])
    | succ k1 =>
      have H := HA.out
      clear HA
      simp only [slices_Index_int_int.l0] at H
      by_cases c3 : x8_1 < (l0.length : Int)
      · rw [if_pos c3] at H
        have c3b0 : decide (x8_1 < (l0.length : Int)) = true := decide_eq_true c3
        clear c3
        by_cases c4 : 0 ≤ x8_1
        · rw [if_pos c4] at H
          have c4b0 : decide (0 ≤ x8_1) = true := decide_eq_true c4
          clear c4
          by_cases c5 : x8_1 < (l0.length : Int)
          · rw [if_pos c5] at H
            have c5b0 : decide (x8_1 < (l0.length : Int)) = true := decide_eq_true c5
            clear c5
            by_cases c6 : a1 = (rd l0 x8_1)
            · rw [if_pos c6] at H
              have c6b0 : (a1 == (rd l0 x8_1)) = true := beq_iff_eq.mpr c6
              have c6b1 : (a1 != (rd l0 x8_1)) = false := bne_eq_false_iff_eq.mpr c6
              clear c6
              obtain rfl := Option.some.inj H
              have p707 : 0 ≤ (x8_1 : Int) := of_decide_eq_true (by first | (with_reducible assumption) | assumption)
              have q707 : x8_1 < (l0.length : Int) := of_decide_eq_true (by first | (with_reducible assumption) | assumption)
              obtain ⟨ad707, e707, hx707_0⟩ := Kd.at_int HR0.out x8_1 p707 q707
              cases e707
              replace p707 := eq_true p707
              replace q707 := eq_true q707
              go_wp2
              go_ret
              exact ⟨by first | rfl | (simp; done) | (simp [*]; done), by repeat (first | exact Drawn0.refl _ | apply Drawn0.step)⟩
            · rw [if_neg c6] at H
              have c6b0 : (a1 == (rd l0 x8_1)) = false := beq_eq_false_iff_ne.mpr c6
              have c6b1 : (a1 != (rd l0 x8_1)) = true := bne_iff_ne.mpr c6
              have H' := Aside0.mk H
              clear H
              have p707 : 0 ≤ (x8_1 : Int) := of_decide_eq_true (by first | (with_reducible assumption) | assumption)
              have q707 : x8_1 < (l0.length : Int) := of_decide_eq_true (by first | (with_reducible assumption) | assumption)
              obtain ⟨ad707, e707, hx707_0⟩ := Kd.at_int HR0.out x8_1 p707 q707
              cases e707
              replace p707 := eq_true p707
              replace q707 := eq_true q707
              go_wp2
              go_roundg k1
              case measure => have := HK1.out; omega
              case rel => exact ⟨(wrap64 (x8_1 + 1)), (by first | rfl | (simp; done) | (simp [*]; done)), H', ⟨by have := HK1.out; omega⟩, by repeat (first | exact Drawn0.refl _ | apply Drawn0.step)⟩
          · rw [if_neg c5] at H
            exact absurd H (by simp)
        · rw [if_neg c4] at H
          exact absurd H (by simp)
      · rw [if_neg c3] at H
        have c3b0 : decide (x8_1 < (l0.length : Int)) = false := decide_eq_false c3
        clear c3
        obtain rfl := Option.some.inj H
        go_wp2
        go_ret
        exact ⟨by first | rfl | (simp; done) | (simp [*]; done), by repeat (first | exact Drawn0.refl _ | apply Drawn0.step)⟩

end Go.Proofs.Ytdbeochifofdoaa.X
end

section
-- Written by a program of this session (wip/hook.py, which runs the kit's print.py with contracts proved by hand). Not trusted: Lean checks it.
namespace Go.Proofs.Ytdbeochifofdoaa.X
open Go.RowKit Go.Proofs.YtdbeochifofdoaaW.PrintWords Go.Proofs.YtdbeochifofdoaaW.PrintLast Go.Proofs.YtdbeochifofdoaaW.PrintMore
attribute [local go_sem] max2_int min2_int max_two min_two max_three min_three max_four min_four   -- for this text's walks alone
set_option linter.unusedVariables false
set_option linter.unusedSimpArgs false

/-! ### slices_Contains_int_int: function 99 -/
def slices_Contains_int_int.f (k : Nat) (l0 : List Int) (a1 : Int) : Option (Bool) := (slices_Index_int_int.f k l0 a1).bind fun t708 => (some (decide (t708 ≥ 0)))
set_option maxHeartbeats 8000000 in
set_option maxRecDepth 100000 in
theorem slices_Contains_int_int.calls (k : Nat) (A0 : Option Addr) (c0 : Nat) (l0 : List Int) (a1 : Int) (r : Bool) (w : World) (hr0 : Kd.C (Kd.int .i64) w A0 l0.length l0) (hc0 : l0.length ≤ c0) (h : slices_Contains_int_int.f k l0 a1 = some r) :
    Calls Try.prog 99 #[.slice A0 l0.length c0, .int .i64 a1] w fun e w' => e = .returned (.bool r) ∧ Drawn0 w w' := by
  have HR0 := Aside0.mk hr0
  have HC0 := Aside0.mk hc0
  clear hr0 hc0
  have H : ((slices_Index_int_int.f k l0 a1).bind fun t708 => (some (decide (t708 ≥ 0)))) = some r := h
  clear h
  replace H := Option.bind_eq_some_iff.mp H
  obtain ⟨t708, A30, H⟩ := H
  replace H : (some (decide (t708 ≥ 0))) = some r := H
  have A3 := Aside0.mk A30
  clear A30
  obtain rfl := Option.some.inj H
  go_enter Try.func99, Try.ntmps99
  go_wp2_with (first | ((with_reducible refine gate_callee (f := 118) rfl ?_); refine goesL_ (some 7) rfl rfl Try.func118 (by kernel_rfl) rfl #[.slice A0 l0.length c0, .int .i64 a1] rfl (by (try simp only [List.map_toArray, List.map_cons, List.map_nil]); first | done | rfl | (simp only [List.length_drop, List.length_take]; rfl)) ?_; (with_reducible refine (slices_Index_int_int.calls k _ _ l0 a1 t708 _ ?side1 ?side2 A3.out).mono ?_); (case side1 => repeat (first | exact HR0.out | (with_reducible refine Kd.C_alloc ?_ _) | (with_reducible refine Kd.C_drewN ?_ _) | (with_reducible refine Kd.C_drew ?_))); (case side2 => exact HC0.out); rintro e w' ⟨rfl, ⟨nd, rfl⟩⟩; refine ⟨_, rfl, ?_⟩))
  go_ret
  exact ⟨by first | rfl | (simp; done) | (simp [*]; done), by repeat (first | exact Drawn0.refl _ | apply Drawn0.step)⟩

/-! ### cmp_isNaN_int: function 141 -/
def cmp_isNaN_int.f (a0 : Int) : Option (Bool) := some (a0 != a0)
set_option maxHeartbeats 8000000 in
set_option maxRecDepth 100000 in
theorem cmp_isNaN_int.calls (a0 : Int) (r : Bool) (w : World) (h : cmp_isNaN_int.f a0 = some r) :
    Calls Try.prog 141 #[.int .i64 a0] w fun e w' => e = .returned (.bool r) ∧ Drawn0 w w' := by
  have H : (some (a0 != a0)) = some r := h
  clear h
  obtain rfl := Option.some.inj H
  go_enter Try.func141, Try.ntmps141
  go_wp2
  go_ret
  exact ⟨by first | rfl | (simp; done) | (simp [*]; done), by repeat (first | exact Drawn0.refl _ | apply Drawn0.step)⟩

end Go.Proofs.Ytdbeochifofdoaa.X
end

section
/-! Plain words for plans, and what the small printed functions come to. -/
namespace Go.Proofs.Ytdbeochifofdoaa.X
open Go.RowKit Go.Proofs.YtdbeochifofdoaaW.PrintWords Go.Proofs.YtdbeochifofdoaaW.PrintLast Go.Proofs.YtdbeochifofdoaaW.PrintMore

theorem wr1 {i : Int} (h0 : 0 ≤ i) (h1 : i < 9223372036854775807) : wrap64 (i + 1) = i + 1 := by unfold wrap64; omega
theorem wr_of {i : Int} (h0 : -9223372036854775808 ≤ i) (h1 : i ≤ 9223372036854775807) : wrap64 i = i := by unfold wrap64; omega
theorem rd_nat (l : List Int) (k : Nat) : rd l (k : Int) = l.getD k 0 := rfl
theorem dropD {α : Type} (d : α) (l : List α) (k : Nat) (h : k < l.length) : l.drop k = l.getD k d :: l.drop (k + 1) := by
  rw [List.drop_eq_getElem_cons h]
  simp [List.getD_eq_getElem?_getD, List.getElem?_eq_getElem h]
theorem mem_getD {α : Type} (d : α) (l : List α) (k : Nat) (h : k < l.length) : l.getD k d ∈ l := by
  simp [List.getD_eq_getElem?_getD, List.getElem?_eq_getElem h]

/-- Is l, behind the number p, strictly ascending and from 0 to c - 1? -/
def aboveB : Option Int → Int → Bool
  | none, _ => true
  | some q, x => decide (q < x)
def setFrom (c : Int) (p : Option Int) : List Int → Bool
  | [] => true
  | x :: xs => (decide (0 ≤ x) && decide (x ≤ c - 1)) && aboveB p x && setFrom c (some x) xs
theorem setFrom_cons (c : Int) (p : Option Int) (x : Int) (xs : List Int) : setFrom c p (x :: xs) = ((decide (0 ≤ x) && decide (x ≤ c - 1)) && aboveB p x && setFrom c (some x) xs) := rfl
def isSetB (c : Int) (l : List Int) : Bool := setFrom c none l

theorem within_f (a b c : Int) : weigh_within.f a b c = some (decide (b ≤ a) && decide (a ≤ c)) := by
  unfold weigh_within.f
  by_cases h : a ≥ b
  · rw [if_pos h]; simp [h]
  · rw [if_neg h]; simp [show ¬ b ≤ a from h]

def prevOf (l : List Int) (i : Nat) : Option Int := if i = 0 then none else some (l.getD (i - 1) 0)

theorem isSet_l0 (c : Int) (hc : 1 ≤ c ∧ c ≤ 13) (l : List Int) (hl : l.length ≤ 9223372036854775807) (d : Nat) :
    ∀ (k i : Nat), i ≤ l.length → l.length - i = d → d < k → weigh_isSet.l0 k l c l (l.length : Int) (i : Int) = some (setFrom c (prevOf l i) (l.drop i)) := by
  induction d with
  | zero =>
    intro k i h1 h2 h3
    obtain ⟨k, rfl⟩ : ∃ m, k = m + 1 := ⟨k - 1, by omega⟩
    simp only [weigh_isSet.l0]
    rw [if_neg (by omega), List.drop_eq_nil_of_le (by omega)]
    rfl
  | succ d ih =>
    intro k i h1 h2 h3
    obtain ⟨k, rfl⟩ : ∃ m, k = m + 1 := ⟨k - 1, by omega⟩
    simp only [weigh_isSet.l0]
    rw [if_pos (by omega), if_pos (by omega), if_pos (by omega), within_f, wr_of (by omega) (by omega), Option.bind_some, dropD 0 l i (by omega), rd_nat]
    rw [setFrom_cons]
    have e1 : wrap64 ((i : Int) + 1) = ((i + 1 : Nat) : Int) := by rw [wr1 (by omega) (by omega)]; omega
    have hp : prevOf l (i + 1) = some (l.getD i 0) := by simp [prevOf]
    have ih' := ih k (i + 1) (by omega) (by omega) (by omega)
    rw [hp] at ih'
    generalize l.getD i 0 = x at *
    generalize setFrom c (some x) (l.drop (i + 1)) = T at *
    by_cases hw : (decide (0 ≤ x) && decide (x ≤ c - 1)) = true
    · rw [if_pos hw, hw]
      by_cases hi : i = 0
      · subst hi
        rw [if_neg (by omega), e1, ih']
        simp [prevOf, aboveB]
      · rw [if_pos (by omega)]
        have e2 : wrap64 ((i : Int) - 1) = ((i - 1 : Nat) : Int) := by rw [wr_of (by omega) (by omega)]; omega
        rw [e2, if_pos (by omega), if_pos (by omega), rd_nat]
        have hp2 : prevOf l i = some (l.getD (i - 1) 0) := by simp [prevOf, hi]
        rw [hp2]
        by_cases hq : l.getD (i - 1) 0 ≥ x
        · rw [if_pos hq]
          have : decide (l.getD (i - 1) 0 < x) = false := decide_eq_false (by omega)
          simp only [aboveB, this]
          simp
        · rw [if_neg hq, e1, ih']
          have : decide (l.getD (i - 1) 0 < x) = true := decide_eq_true (by omega)
          simp only [aboveB, this]
          simp
    · rw [if_neg hw]
      have : (decide (0 ≤ x) && decide (x ≤ c - 1)) = false := by simpa using hw
      rw [this]; simp
theorem isSet_f (c : Int) (hc : 1 ≤ c ∧ c ≤ 13) (l : List Int) (hl : l.length ≤ 9223372036854775807) : weigh_isSet.f (l.length + 1) l c = some (isSetB c l) := by
  unfold weigh_isSet.f
  have := isSet_l0 c hc l hl l.length (l.length + 1) 0 (by omega) (by omega) (by omega)
  rw [show ((0 : Nat) : Int) = 0 from rfl] at this
  rw [this]
  simp [isSetB, prevOf]

theorem index_l0 (l : List Int) (v : Int) (hl : l.length ≤ 9223372036854775807) (d : Nat) :
    ∀ (k i : Nat), i ≤ l.length → l.length - i = d → d < k → ∃ r : Int, slices_Index_int_int.l0 k l v (l.length : Int) (i : Int) = some r ∧ decide (r ≥ 0) = (l.drop i).contains v := by
  induction d with
  | zero =>
    intro k i h1 h2 h3
    obtain ⟨k, rfl⟩ : ∃ m, k = m + 1 := ⟨k - 1, by omega⟩
    refine ⟨-1, ?_, ?_⟩
    · simp only [slices_Index_int_int.l0]
      rw [if_neg (by omega)]
    · rw [List.drop_eq_nil_of_le (by omega)]; simp
  | succ d ih =>
    intro k i h1 h2 h3
    obtain ⟨k, rfl⟩ : ∃ m, k = m + 1 := ⟨k - 1, by omega⟩
    simp only [slices_Index_int_int.l0]
    rw [if_pos (by omega), if_pos (by omega), if_pos (by omega), dropD 0 l i (by omega), rd_nat]
    by_cases h : v = l.getD i 0
    · rw [if_pos h]
      exact ⟨_, rfl, by rw [← h]; simp⟩
    · rw [if_neg h]
      have e1 : wrap64 ((i : Int) + 1) = ((i + 1 : Nat) : Int) := by rw [wr1 (by omega) (by omega)]; omega
      obtain ⟨r, hr, hq⟩ := ih k (i + 1) (by omega) (by omega) (by omega)
      refine ⟨r, by rw [e1]; exact hr, ?_⟩
      rw [hq, List.contains_cons]
      have : (v == l.getD i 0) = false := by simpa using h
      rw [this, Bool.false_or]
theorem contains_f (l : List Int) (v : Int) (hl : l.length ≤ 9223372036854775807) : slices_Contains_int_int.f (l.length + 1) l v = some (l.contains v) := by
  obtain ⟨r, hr, hq⟩ := index_l0 l v hl l.length (l.length + 1) 0 (by omega) (by omega) (by omega)
  unfold slices_Contains_int_int.f slices_Index_int_int.f
  rw [show ((0 : Nat) : Int) = 0 from rfl] at hr
  rw [hr, Option.bind_some, hq]
  simp

/-- The error of a weighing. -/
def wErr (lots : Int) (x : S53) : Int := if (!isSetB lots x.f0 || !isSetB lots x.f1) = true then 1 else if x.f0.any (fun n => x.f1.contains n) = true then 6 else if x.f0.length = x.f1.length then 0 else 5
/-- The first error of weighings. -/
def vErr (lots : Int) : List S53 → Int
  | [] => 0
  | x :: xs => if wErr lots x = 0 then vErr lots xs else wErr lots x
/-- The error of lots and a plan. -/
def pErr (lots : Int) (l : List S53) : Int := if 1 ≤ lots ∧ lots ≤ 13 then (if 3 < l.length then 3 else vErr lots l) else 1
end Go.Proofs.Ytdbeochifofdoaa.X
end

section
/-! verditerref01.KeepInts. -/
namespace Go.Proofs.Ytdbeochifofdoaa.X
open Go.RowKit Go.Proofs.YtdbeochifofdoaaW.PrintWords Go.Proofs.YtdbeochifofdoaaW.PrintLast Go.Proofs.YtdbeochifofdoaaW.PrintMore
set_option linter.unusedVariables false
set_option linter.unusedSimpArgs false

set_option maxHeartbeats 1000000 in
set_option maxRecDepth 100000 in
/-- The cells of a list up to its capacity, in new memory. -/
theorem keepInts_calls (A : Option Addr) (n : Nat) (xs : List Int) (w : World) (hr : Kd.C (Kd.int .i64) w A xs.length xs) (hn : n ≤ xs.length) (hl : xs.length ≤ 17592186044416) :
    Calls Try.prog 33 #[.slice A n xs.length] w fun e w' => ∃ v : Value, e = .returned v ∧ Kd.R (Kd.int .i64) 3 w' w.heap.size (fun _ => True) v xs ∧ Below w.heap.size w w' := by
  have HL := Aside0.mk hl
  have HR := Aside0.mk hr
  clear hl hr
  have hmx : xs.length ≤ 9223372036854775807 := by have := HL.out; omega
  go_enter Try.func33, Try.ntmps33
  go_wp2_with (first | (at_builtin; refine Kd.R_append_row (Value.int .i64) (0 : Int) (h1 := fun _ => rfl) (w0 := w) w.heap.size rfl (.tmp 3) (.tmp 7) 43 3 (.int .i64 0) 8 rfl Try.underlying43 info3 rfl (by decide) (.slice (some ⟨w.heap.size, 0, none⟩) 0 0) [] xs A xs.length xs.length (fun _ => True) rfl rfl (fun _ _ => trivial) ?aO ?aR ?aB ?aS ?aL ?_))
  case aO => exact Kd.R_of_own (xs := ([] : List Int)) (own_lit w w.heap.size 3 .i64 [] (Nat.le_refl _) (by simp)) (fun _ _ => trivial)
  case aR => exact Kd.C_alloc HR.out _
  case aB => exact (Below.refl _ _).alloc (Nat.le_refl _) _
  case aS => simp
  case aL => have := HL.out; simp; omega
  intro v1 w1 hO hB _ _
  have HO := Aside0.mk hO
  have HB := Aside0.mk hB
  clear hO hB
  go_wp2
  go_ret
  exact ⟨_, rfl, HO.out, HB.out⟩
end Go.Proofs.Ytdbeochifofdoaa.X
end

section
/-! verditerref01.KeepWeighings. -/
namespace Go.Proofs.Ytdbeochifofdoaa.X
open Go.RowKit Go.Proofs.YtdbeochifofdoaaW.PrintWords Go.Proofs.YtdbeochifofdoaaW.PrintLast Go.Proofs.YtdbeochifofdoaaW.PrintMore
set_option linter.unusedVariables false
set_option linter.unusedSimpArgs false

/-- The cells of a list of weighings up to its capacity: of each weighing both lists, with their whole contents. -/
def FullW (W : World) (A : Option Addr) (ys : List S53) : Prop :=
  ∀ i, i < ys.length → ∃ ad Al nl Ar nr, A = some ad ∧ W.cell? (ad.add (i * 2)) = some (.slice Al nl (ys.getD i z53).f0.length) ∧
    W.cell? ⟨(ad.add (i * 2)).block, (ad.add (i * 2)).off + 1, none⟩ = some (.slice Ar nr (ys.getD i z53).f1.length) ∧
    nl ≤ (ys.getD i z53).f0.length ∧ nr ≤ (ys.getD i z53).f1.length ∧
    Kd.C (Kd.int .i64) W Al (ys.getD i z53).f0.length (ys.getD i z53).f0 ∧ Kd.C (Kd.int .i64) W Ar (ys.getD i z53).f1.length (ys.getD i z53).f1
theorem FullW.below {W W' : World} {A : Option Addr} {ys : List S53} (h : FullW W A ys) (hb : Below W.heap.size W W') : FullW W' A ys := by
  intro i hi
  obtain ⟨ad, Al, nl, Ar, nr, e, h1, h2, h3, h4, h5, h6⟩ := h i hi
  exact ⟨ad, Al, nl, Ar, nr, e, (hb.cell (World.block_lt_of_cell? W _ h1)).trans h1, (hb.cell (World.block_lt_of_cell? W _ h2)).trans h2, h3, h4, Kd.C_below h5 hb, Kd.C_below h6 hb⟩

/-- Two new lists lie in none of the rows so far. -/
theorem keep_fresh {w wo w1 w2 : World} {v : Value} {out : List S53} {u1 u2 : Value} {l1 l2 : List Int} (h0 : w.heap.size ≤ wo.heap.size) (h1 : wo.drew.heap.size ≤ w1.heap.size)
    (hN : Kd.N k53 53 wo w.heap.size (fun k_ => w.heap.size ≤ k_) v out) (hR1 : Kd.R (Kd.int .i64) 3 w1 wo.drew.heap.size (fun _ => True) u1 l1) (hR2 : Kd.R (Kd.int .i64) 3 w2 w1.heap.size (fun _ => True) u2 l2) :
    ∀ k, (some k = u1.ownBlock ∨ some k = u2.ownBlock) → w.heap.size ≤ k ∧ some k ≠ v.ownBlock := by
  intro k hk
  have e : wo.drew.heap.size = wo.heap.size := rfl
  have hb : wo.heap.size ≤ k := by
    rcases hk with h | h
    · have := Kd.R_base hR1 k h.symm
      omega
    · have := Kd.R_base hR2 k h.symm
      omega
  refine ⟨by omega, fun he => ?_⟩
  have := Kd.N_lt hN k he.symm
  omega

set_option maxHeartbeats 4000000 in
set_option maxRecDepth 100000 in
theorem keepW_calls (A : Option Addr) (n : Nat) (ys : List S53) (w : World) (hF : FullW w A ys) (hn : n ≤ ys.length) (hl : ys.length ≤ 2932031007402)
    (hs : ∀ y, y ∈ ys → y.f0.length ≤ 17592186044416 ∧ y.f1.length ≤ 17592186044416) :
    Calls Try.prog 17 #[.slice A n ys.length] w fun e w' => ∃ v : Value, e = .returned v ∧ Kd.N k53 53 w' w.heap.size (fun k_ => w.heap.size ≤ k_) v ys ∧ Below w.heap.size w w' := by
  have HF := Aside0.mk hF
  have HS := Aside0.mk hs
  clear hF hs
  go_enter Try.func17, Try.ntmps17
  go_wp2
  go_loopg [3, 4] ys.length (fun gg v3 s wr => ∃ (i : Nat) (out : List S53), i ≤ ys.length ∧ ys.length - i ≤ gg ∧ s = .int .i64 i ∧ Aside0 (Below w.heap.size w wr) ∧ Aside0 (Kd.N k53 53 wr w.heap.size (fun k_ => w.heap.size ≤ k_) v3 out) ∧ Aside0 (out = ys.take i))
  case atStart => exact ⟨0, [], Nat.zero_le _, by omega, rfl, ⟨Below.refl _ _⟩, ⟨Kd.N_nil _ _ _ _ _⟩, ⟨by simp⟩⟩
  case round =>
    obtain ⟨i, out, hi, hg, rfl, BW, HO, AX⟩ := hrel
    by_cases hil : i < ys.length
    · have hilz : (i : Int) < (ys.length : Int) := by omega
      obtain ⟨ad, Al, nl, Ar, nr, e1, h1, h2, h3, h4, h5, h6⟩ := HF.out i hil
      subst e1
      have HSi := Aside0.mk (HS.out _ (mem_getD z53 ys i hil))
      have HT : Aside0 (ys.take (i + 1) = ys.take i ++ [ys.getD i z53]) := ⟨by rw [List.take_succ_eq_append_getElem hil]; simp [List.getD_eq_getElem?_getD, List.getElem?_eq_getElem hil]⟩
      have hol : out.length ≤ i := by rw [AX.out]; simp; omega
      obtain ⟨Av, cv, rfl⟩ := Kd.N_slice HO.out
      generalize hy : ys.getD i z53 = y at *
      clear hy
      obtain ⟨xl, xr⟩ := y
      dsimp only at h1 h2 h3 h4 h5 h6 HSi
      have CL : Aside0 (∀ W, (Below w.heap.size w W ∧ W.cell? (ad.add (i * 2)) = some (.slice Al nl xl.length) ∧ W.cell? ⟨(ad.add (i * 2)).block, (ad.add (i * 2)).off + 1, none⟩ = some (.slice Ar nr xr.length)) →
          Calls Try.prog 33 #[.slice Al nl xl.length] W fun e w' => ∃ A1 c1, e = .returned (.slice A1 xl.length c1) ∧ Kd.R (Kd.int .i64) 3 w' W.heap.size (fun _ => True) (.slice A1 xl.length c1) xl ∧ Below W.heap.size W w' ∧
            (Below w.heap.size w w' ∧ w'.cell? (ad.add (i * 2)) = some (.slice Al nl xl.length) ∧ w'.cell? ⟨(ad.add (i * 2)).block, (ad.add (i * 2)).off + 1, none⟩ = some (.slice Ar nr xr.length))) :=
        ⟨fun W hW => (keepInts_calls Al nl xl W (Kd.C_below h5 hW.1) h3 HSi.out.1).mono (by
          rintro e w' ⟨v, rfl, hR, hb⟩
          obtain ⟨A1, c1, rfl⟩ := Kd.R_slice hR
          exact ⟨A1, c1, rfl, hR, hb, hW.1.trans (hb.mono hW.1.size), (hb.cell (World.block_lt_of_cell? W _ hW.2.1)).trans hW.2.1, (hb.cell (World.block_lt_of_cell? W _ hW.2.2)).trans hW.2.2⟩)⟩
      have CR : Aside0 (∀ W, (Below w.heap.size w W ∧ W.cell? (ad.add (i * 2)) = some (.slice Al nl xl.length) ∧ W.cell? ⟨(ad.add (i * 2)).block, (ad.add (i * 2)).off + 1, none⟩ = some (.slice Ar nr xr.length)) →
          Calls Try.prog 33 #[.slice Ar nr xr.length] W fun e w' => ∃ A1 c1, e = .returned (.slice A1 xr.length c1) ∧ Kd.R (Kd.int .i64) 3 w' W.heap.size (fun _ => True) (.slice A1 xr.length c1) xr ∧ Below W.heap.size W w' ∧
            (Below w.heap.size w w' ∧ w'.cell? (ad.add (i * 2)) = some (.slice Al nl xl.length) ∧ w'.cell? ⟨(ad.add (i * 2)).block, (ad.add (i * 2)).off + 1, none⟩ = some (.slice Ar nr xr.length))) :=
        ⟨fun W hW => (keepInts_calls Ar nr xr W (Kd.C_below h6 hW.1) h4 HSi.out.2).mono (by
          rintro e w' ⟨v, rfl, hR, hb⟩
          obtain ⟨A1, c1, rfl⟩ := Kd.R_slice hR
          exact ⟨A1, c1, rfl, hR, hb, hW.1.trans (hb.mono hW.1.size), (hb.cell (World.block_lt_of_cell? W _ hW.2.1)).trans hW.2.1, (hb.cell (World.block_lt_of_cell? W _ hW.2.2)).trans hW.2.2⟩)⟩
      have hS0 : Below w.heap.size w wr.drew ∧ wr.drew.cell? (ad.add (i * 2)) = some (.slice Al nl xl.length) ∧ wr.drew.cell? ⟨(ad.add (i * 2)).block, (ad.add (i * 2)).off + 1, none⟩ = some (.slice Ar nr xr.length) :=
        ⟨below_drew1 BW.out, (BW.out.cell (World.block_lt_of_cell? w _ h1)).trans h1, (BW.out.cell (World.block_lt_of_cell? w _ h2)).trans h2⟩
      have h1o := h1
      have h2o := h2
      replace h1 := (BW.out.cell (World.block_lt_of_cell? w _ h1)).trans h1
      replace h2 := (BW.out.cell (World.block_lt_of_cell? w _ h2)).trans h2
      clear h5 h6
      have b1 : (ad.add (i * 2)).block < w.heap.size := World.block_lt_of_cell? w _ h1o
      have b2 : (⟨(ad.add (i * 2)).block, (ad.add (i * 2)).off + 1, none⟩ : Addr).block < w.heap.size := b1
      have SK : ∀ W, Below w.heap.size w W → (Below w.heap.size w W ∧ W.cell? (ad.add (i * 2)) = some (.slice Al nl xl.length) ∧ W.cell? ⟨(ad.add (i * 2)).block, (ad.add (i * 2)).off + 1, none⟩ = some (.slice Ar nr xr.length)) := fun W hb => ⟨hb, (hb.cell b1).trans h1o, (hb.cell b2).trans h2o⟩
      go_wp2
      go_region_held3 (fun W => Below w.heap.size w W ∧ W.cell? (ad.add (i * 2)) = some (.slice Al nl xl.length) ∧ W.cell? ⟨(ad.add (i * 2)).block, (ad.add (i * 2)).off + 1, none⟩ = some (.slice Ar nr xr.length)) ((first | with_reducible assumption | exact hS0 | exact SK _ (below_alloc hS2.1 _) | exact SK _ hB3 | fail)) (first | (go_at_call 33; with_reducible refine (CL.out _ ?_).mono ?_; (first | with_reducible assumption | exact hS0); rintro e w1 ⟨A1, c1, rfl, hR1, hB1, hS1⟩; have hN1 := Kd.N_below (Kd.N_drew HO.out) hB1) | (go_at_call 33; with_reducible refine (CR.out _ ?_).mono ?_; (first | with_reducible assumption | exact hS1); rintro e w2 ⟨A2, c2, rfl, hR2, hB2, hS2⟩; have hR1' := Kd.R_below hR1 hB2; have hN2 := Kd.N_below hN1 hB2) | (refine Kd.N_append_step k53 (w0 := w) w.heap.size (by rfl) (.tmp 15) (.tmp 29) 22 53 (.agg #[(.slice none 0 0), (.slice none 0 0)]) 48 rfl Try.underlying22 info53 rfl (by decide) (by omega) (.slice Av out.length cv) out (⟨xl, xr⟩ : S53) [.slice A1 xl.length c1, .slice A2 xr.length c2] (fun k_ => w.heap.size ≤ k_) (fun k_ => some k_ = (.slice A1 xl.length c1 : Value).ownBlock ∨ some k_ = (.slice A2 xr.length c2 : Value).ownBlock) rfl rfl ?aP ?aK ?aF ?aO ?aB ?aS ?aL ?_; (case aP => exact Kd.FK_of_M (k53_mkM _ w.heap.size _ (⟨xl, xr⟩ : S53) (Kd.R_mono (Kd.R_tight rfl (Kd.R_lower hR1' BW.out.size)) (fun _ h => Or.inl h)) (Kd.R_mono (Kd.R_tight rfl (Kd.R_lower hR2 (Nat.le_trans BW.out.size hB1.size))) (fun _ h => Or.inr h)))); (case aK => exact keep_fresh BW.out.size hB1.size HO.out hR1 hR2); (case aF => exact fun q hq => Nat.le_trans hS2.1.size hq); (case aO => exact hN2); (case aB => exact hS2.1); (case aS => exact hS2.1.size); (case aL => omega); intro v3 w3 hN3 hB3 _ _))
      have HN := Aside0.mk hN3
      have HB3 := Aside0.mk hB3
      clear hN3 hB3 hN2 hN1 hR1 hR1' hR2 hB1 hB2 hS1 hS2 hS0
      go_wp2
      go_roundg (ys.length - (i + 1))
      case measure => omega
      case rel =>
        refine ⟨i + 1, _, by omega, by omega, by go_num, HB3, HN, ⟨?_⟩⟩
        rw [HT.out, AX.out]
    · have hilz : ¬ (i : Int) < (ys.length : Int) := by omega
      obtain rfl : i = ys.length := by omega
      go_wp2
      go_ret
      refine ⟨_, rfl, ?_, BW.out⟩
      have h := HO.out
      rw [AX.out, List.take_of_length_le (Nat.le_refl _)] at h
      exact h
end Go.Proofs.Ytdbeochifofdoaa.X
end

section
/-! verditerref01.KeptInts. -/
namespace Go.Proofs.Ytdbeochifofdoaa.X
open Go.RowKit Go.Proofs.YtdbeochifofdoaaW.PrintWords Go.Proofs.YtdbeochifofdoaaW.PrintLast Go.Proofs.YtdbeochifofdoaaW.PrintMore
set_option linter.unusedVariables false
set_option linter.unusedSimpArgs false

set_option maxHeartbeats 2000000 in
set_option maxRecDepth 100000 in
/-- All cells are as they were: true. -/
theorem keptInts_calls (A0 : Option Addr) (c0 : Nat) (A1 : Option Addr) (n1 : Nat) (xs : List Int) (w : World) (hr0 : Kd.C (Kd.int .i64) w A0 xs.length xs) (hr1 : Kd.C (Kd.int .i64) w A1 xs.length xs) (hn : n1 ≤ xs.length) :
    Calls Try.prog 35 #[.slice A0 xs.length c0, .slice A1 n1 xs.length] w fun e w' => e = .returned (.bool true) ∧ Below w.heap.size w w' := by
  have HR0 := Aside0.mk hr0
  have HR1 := Aside0.mk hr1
  have hmx := Kd.C_max hr0
  clear hr0 hr1
  go_enter Try.func35, Try.ntmps35
  go_wp2
  go_loopg [5] xs.length (fun gg s wr => ∃ i : Nat, i ≤ xs.length ∧ xs.length - i ≤ gg ∧ s = .int .i64 i ∧ Aside0 (Below w.heap.size w wr))
  case atStart => exact ⟨0, by omega, by omega, rfl, ⟨Below.refl _ _⟩⟩
  case round =>
    obtain ⟨i, hi, hg, rfl, BW⟩ := hrel
    by_cases hlt : i < xs.length
    · have hltz : (i : Int) < (xs.length : Int) := by omega
      obtain ⟨ad, e1, hx⟩ := Kd.at_int HR0.out i (by omega) hltz
      obtain ⟨bd, e2, hy⟩ := Kd.at_int HR1.out i (by omega) hltz
      subst e1 e2
      replace hx := (BW.out.cell (World.block_lt_of_cell? w _ hx)).trans hx
      replace hy := (BW.out.cell (World.block_lt_of_cell? w _ hy)).trans hy
      simp only [Int.toNat_natCast] at hx hy
      generalize rd xs (i : Int) = v at hx hy
      go_wp2
      go_quiet (fail)
      go_wp2
      go_roundg (xs.length - (i + 1))
      case measure => omega
      case rel => exact ⟨i + 1, by omega, by omega, by go_num, ⟨pw_below_drewN BW.out _⟩⟩
    · have hltz : ¬ (i : Int) < (xs.length : Int) := by omega
      go_wp2
      go_ret
      exact ⟨rfl, BW.out⟩
end Go.Proofs.Ytdbeochifofdoaa.X
end

section
/-! verditerref01.KeptWeighings. -/
namespace Go.Proofs.Ytdbeochifofdoaa.X
open Go.RowKit Go.Proofs.YtdbeochifofdoaaW.PrintWords Go.Proofs.YtdbeochifofdoaaW.PrintLast Go.Proofs.YtdbeochifofdoaaW.PrintMore
set_option linter.unusedVariables false
set_option linter.unusedSimpArgs false

set_option maxHeartbeats 4000000 in
set_option maxRecDepth 100000 in
theorem keptW_calls (A0 : Option Addr) (c0 : Nat) (A : Option Addr) (n : Nat) (ys : List S53) (w : World) (hO : Kd.C k53 w A0 ys.length ys) (hF : FullW w A ys) (hn : n ≤ ys.length) :
    Calls Try.prog 19 #[.slice A0 ys.length c0, .slice A n ys.length] w fun e w' => e = .returned (.bool true) ∧ Below w.heap.size w w' := by
  have HF := Aside0.mk hF
  have HO := Aside0.mk hO
  have hmx := Kd.C_max hO
  clear hF hO
  go_enter Try.func19, Try.ntmps19
  go_wp2
  go_loopg [5] ys.length (fun gg s wr => ∃ i : Nat, i ≤ ys.length ∧ ys.length - i ≤ gg ∧ s = .int .i64 i ∧ Aside0 (Below w.heap.size w wr))
  case atStart => exact ⟨0, by omega, by omega, rfl, ⟨Below.refl _ _⟩⟩
  case round =>
    obtain ⟨i, hi, hg, rfl, BW⟩ := hrel
    by_cases hil : i < ys.length
    · have hilz : (i : Int) < (ys.length : Int) := by omega
      obtain ⟨ad, Al, nl, Ar, nr, e1, h1, h2, h3, h4, h5, h6⟩ := HF.out i hil
      obtain ⟨od, Bl, cl, Br, cr, e2, g1, g2, g3, g4, g5, g6⟩ := at_T53 HO.out i (by omega) hilz
      subst e1 e2
      simp only [Int.toNat_natCast] at g1 g2 g3 g4 g5 g6
      rw [show rd_T53 ys (i : Int) = ys.getD i z53 from rfl] at g1 g2 g3 g4 g5 g6
      generalize hy : ys.getD i z53 = y at *
      clear hy
      obtain ⟨xl, xr⟩ := y
      dsimp only at h1 h2 h3 h4 h5 h6 g1 g2 g3 g4 g5 g6
      have b1 : (ad.add (i * 2)).block < w.heap.size := World.block_lt_of_cell? w _ h1
      have b3 : (od.add (i * 2)).block < w.heap.size := World.block_lt_of_cell? w _ g1
      have b2 : (⟨(ad.add (i * 2)).block, (ad.add (i * 2)).off + 1, none⟩ : Addr).block < w.heap.size := b1
      have b4 : (⟨(od.add (i * 2)).block, (od.add (i * 2)).off + 1, none⟩ : Addr).block < w.heap.size := b3
      have SK : ∀ W, Below w.heap.size w W → (Below w.heap.size w W ∧ W.cell? (od.add (i * 2)) = some (.slice Bl xl.length cl) ∧ W.cell? ⟨(od.add (i * 2)).block, (od.add (i * 2)).off + 1, none⟩ = some (.slice Br xr.length cr) ∧ W.cell? (ad.add (i * 2)) = some (.slice Al nl xl.length) ∧ W.cell? ⟨(ad.add (i * 2)).block, (ad.add (i * 2)).off + 1, none⟩ = some (.slice Ar nr xr.length)) := fun W hb => ⟨hb, (hb.cell b3).trans g1, (hb.cell b4).trans g2, (hb.cell b1).trans h1, (hb.cell b2).trans h2⟩
      have SK0 := SK _ (below_drew1 BW.out)
      have CL : Aside0 (∀ W, Below w.heap.size w W → Calls Try.prog 35 #[.slice Bl xl.length cl, .slice Al nl xl.length] W fun e w' => e = .returned (.bool true) ∧ Below w.heap.size w w') :=
        ⟨fun W hW => (keptInts_calls Bl cl Al nl xl W (Kd.C_below g4 hW) (Kd.C_below h5 hW) h3).mono (fun e w' h => ⟨h.1, hW.trans (h.2.mono hW.size)⟩)⟩
      have CR : Aside0 (∀ W, Below w.heap.size w W → Calls Try.prog 35 #[.slice Br xr.length cr, .slice Ar nr xr.length] W fun e w' => e = .returned (.bool true) ∧ Below w.heap.size w w') :=
        ⟨fun W hW => (keptInts_calls Br cr Ar nr xr W (Kd.C_below g6 hW) (Kd.C_below h6 hW) h4).mono (fun e w' h => ⟨h.1, hW.trans (h.2.mono hW.size)⟩)⟩
      clear h5 h6 g3 g4 g5 g6
      obtain ⟨_, k1, k2, k3, k4⟩ := SK _ BW.out
      clear h1 h2 g1 g2
      go_wp2
      go_region_held3 (fun W => Below w.heap.size w W ∧ W.cell? (od.add (i * 2)) = some (.slice Bl xl.length cl) ∧ W.cell? ⟨(od.add (i * 2)).block, (od.add (i * 2)).off + 1, none⟩ = some (.slice Br xr.length cr) ∧ W.cell? (ad.add (i * 2)) = some (.slice Al nl xl.length) ∧ W.cell? ⟨(ad.add (i * 2)).block, (ad.add (i * 2)).off + 1, none⟩ = some (.slice Ar nr xr.length)) ((first | with_reducible assumption | exact SK0 | exact SK _ hS2 | exact SK _ hS1 | fail)) (first | (go_at_call 35; with_reducible refine (CL.out _ ?_).mono ?_; (first | with_reducible assumption | exact SK0.1); rintro e w1 ⟨rfl, hS1⟩) | (go_at_call 35; with_reducible refine (CR.out _ ?_).mono ?_; (first | with_reducible assumption | exact hS1); rintro e w2 ⟨rfl, hS2⟩))
      go_wp2
      go_roundg (ys.length - (i + 1))
      case measure => omega
      case rel => exact ⟨i + 1, by omega, by omega, by go_num, ⟨hS2⟩⟩
    · have hilz : ¬ (i : Int) < (ys.length : Int) := by omega
      go_wp2
      go_ret
      exact ⟨rfl, BW.out⟩
end Go.Proofs.Ytdbeochifofdoaa.X
end

section
-- Written by a program of this session (wip/hook.py, which runs the kit's print.py with contracts proved by hand). Not trusted: Lean checks it.
namespace Go.Proofs.Ytdbeochifofdoaa.X
open Go.RowKit Go.Proofs.YtdbeochifofdoaaW.PrintWords Go.Proofs.YtdbeochifofdoaaW.PrintLast Go.Proofs.YtdbeochifofdoaaW.PrintMore
attribute [local go_sem] max2_int min2_int max_two min_two max_three min_three max_four min_four   -- for this text's walks alone
set_option linter.unusedVariables false
set_option linter.unusedSimpArgs false

/-! ### verditerref06_SameInts: function 60 -/
def verditerref06_SameInts.l0 : Nat → List Int → List Int → Int → Option (Bool)
  | 0, _, _, _ => none
  | k + 1, x0, x1, x5 => if x5 < (x0.length : Int) then (if 0 ≤ x5 then (if x5 < (x1.length : Int) then (if (rd x0 x5) = (rd x1 x5) then (verditerref06_SameInts.l0 k x0 x1 (wrap64 (x5 + 1))) else (some false)) else (none)) else (none)) else (some true)
def verditerref06_SameInts.f (k : Nat) (l0 : List Int) (l1 : List Int) : Option (Bool) := if (l0.length : Int) = (l1.length : Int) then (verditerref06_SameInts.l0 k l0 l1 0) else (some false)
theorem verditerref06_SameInts.mono_l : ∀ k, (∀ y0 y1 y2, LeO (verditerref06_SameInts.l0 k y0 y1 y2) (verditerref06_SameInts.l0 (k + 1) y0 y1 y2))
  | 0 => fun _ _ _ r h => by simp [verditerref06_SameInts.l0] at h
  | k + 1 => by
    have ih0 := verditerref06_SameInts.mono_l k
    · intro y0 y1 y2
      unfold verditerref06_SameInts.l0
      repeat' first
      | (with_reducible exact ih0 _ _ _)
      | (with_reducible exact LeO.refl _)
      | (with_reducible exact LeO.none _)
      | (with_reducible refine LeO.ite ?_ ?_)
      | (with_reducible refine LeO.bind ?_ (fun _ => ?_))
      | exact ih0 _ _ _
      | exact LeO.none _
      | refine LeO.ite ?_ ?_
      | refine LeO.bind ?_ (fun _ => ?_)
theorem verditerref06_SameInts.mono : ∀ a0 a1 k, LeO (verditerref06_SameInts.f k a0 a1) (verditerref06_SameInts.f (k + 1) a0 a1) := by
  intro a0 a1 k
  have ih0 := verditerref06_SameInts.mono_l k
  unfold verditerref06_SameInts.f
  repeat' first
      | (with_reducible exact ih0 _ _ _)
      | (with_reducible exact LeO.refl _)
      | (with_reducible exact LeO.none _)
      | (with_reducible refine LeO.ite ?_ ?_)
      | (with_reducible refine LeO.bind ?_ (fun _ => ?_))
      | exact ih0 _ _ _
      | exact LeO.none _
      | refine LeO.ite ?_ ?_
      | refine LeO.bind ?_ (fun _ => ?_)
set_option maxHeartbeats 8000000 in
set_option maxRecDepth 100000 in
theorem verditerref06_SameInts.calls (k : Nat) (A0 : Option Addr) (c0 : Nat) (l0 : List Int) (A1 : Option Addr) (c1 : Nat) (l1 : List Int) (r : Bool) (w : World) (hr0 : Kd.C (Kd.int .i64) w A0 l0.length l0) (hc0 : l0.length ≤ c0) (hr1 : Kd.C (Kd.int .i64) w A1 l1.length l1) (hc1 : l1.length ≤ c1) (h : verditerref06_SameInts.f k l0 l1 = some r) :
    Calls Try.prog 60 #[.slice A0 l0.length c0, .slice A1 l1.length c1] w fun e w' => e = .returned (.bool r) ∧ Drawn0 w w' := by
  have HR0 := Aside0.mk hr0
  have HC0 := Aside0.mk hc0
  clear hr0 hc0
  have HR1 := Aside0.mk hr1
  have HC1 := Aside0.mk hc1
  clear hr1 hc1
  have H : (if (l0.length : Int) = (l1.length : Int) then (verditerref06_SameInts.l0 k l0 l1 0) else (some false)) = some r := h
  clear h
  by_cases c3 : (l0.length : Int) = (l1.length : Int)
  · rw [if_pos c3] at H
    have c3b0 : ((l0.length : Int) == (l1.length : Int)) = true := beq_iff_eq.mpr c3
    have c3b1 : ((l0.length : Int) != (l1.length : Int)) = false := bne_eq_false_iff_eq.mpr c3
    have c3b2 : (l0.length == l1.length) = true := by first | simpa using c3 | (simp at c3 ⊢; omega)
    clear c3
    have H' := Aside0.mk H
    clear H
    go_enter Try.func60, Try.ntmps60
    go_wp2
    repeat (go_quiet (fail); try go_wp2)
    go_loopg [5] k (fun kq v5 w' => ∃ (x5_1 : Int), v5 = .int .i64 x5_1 ∧ Aside0 (verditerref06_SameInts.l0 kq l0 l1 x5_1 = some r) ∧ Aside0 (kq ≤ k) ∧ Drawn0 w w')
    case atStart => exact ⟨(0), (by first | rfl | (simp; done) | (simp [*]; done)), H', ⟨Nat.le_refl _⟩, by repeat (first | exact Drawn0.refl _ | apply Drawn0.step)⟩
    case round =>
      clear H'
      try clear c1
      try clear p2
      try clear c3
      try clear c3b0
      try clear c3b1
      try clear c3b2
      obtain ⟨x5_1, rfl, HA, HK1, ⟨m1, rfl⟩⟩ := hrel
      cases gk with
      | zero => exact absurd HA.out (by simp [verditerref06_SameInts.l0])
      | succ k1 =>
        have H := HA.out
        clear HA
        simp only [verditerref06_SameInts.l0] at H
        by_cases c4 : x5_1 < (l0.length : Int)
        · rw [if_pos c4] at H
          have c4b0 : decide (x5_1 < (l0.length : Int)) = true := decide_eq_true c4
          clear c4
          by_cases c5 : 0 ≤ x5_1
          · rw [if_pos c5] at H
            have c5b0 : decide (0 ≤ x5_1) = true := decide_eq_true c5
            clear c5
            by_cases c6 : x5_1 < (l1.length : Int)
            · rw [if_pos c6] at H
              have c6b0 : decide (x5_1 < (l1.length : Int)) = true := decide_eq_true c6
              clear c6
              by_cases c7 : (rd l0 x5_1) = (rd l1 x5_1)
              · rw [if_pos c7] at H
                have c7b0 : ((rd l0 x5_1) == (rd l1 x5_1)) = true := beq_iff_eq.mpr c7
                have c7b1 : ((rd l0 x5_1) != (rd l1 x5_1)) = false := bne_eq_false_iff_eq.mpr c7
                clear c7
                have H' := Aside0.mk H
                clear H
                have p151 : 0 ≤ (x5_1 : Int) := of_decide_eq_true (by first | (with_reducible assumption) | assumption)
                have q151 : x5_1 < (l0.length : Int) := of_decide_eq_true (by first | (with_reducible assumption) | assumption)
                obtain ⟨ad151, e151, hx151_0⟩ := Kd.at_int HR0.out x5_1 p151 q151
                cases e151
                replace p151 := eq_true p151
                replace q151 := eq_true q151
                have p152 : 0 ≤ (x5_1 : Int) := of_decide_eq_true (by first | (with_reducible assumption) | assumption)
                have q152 : x5_1 < (l1.length : Int) := of_decide_eq_true (by first | (with_reducible assumption) | assumption)
                obtain ⟨ad152, e152, hx152_0⟩ := Kd.at_int HR1.out x5_1 p152 q152
                cases e152
                replace p152 := eq_true p152
                replace q152 := eq_true q152
                go_wp2
                repeat (go_quiet (fail); try go_wp2)
                go_roundg k1
                case measure => have := HK1.out; omega
                case rel => exact ⟨(wrap64 (x5_1 + 1)), (by first | rfl | (simp; done) | (simp [*]; done)), H', ⟨by have := HK1.out; omega⟩, by repeat (first | exact Drawn0.refl _ | apply Drawn0.step)⟩
              · rw [if_neg c7] at H
                have c7b0 : ((rd l0 x5_1) == (rd l1 x5_1)) = false := beq_eq_false_iff_ne.mpr c7
                have c7b1 : ((rd l0 x5_1) != (rd l1 x5_1)) = true := bne_iff_ne.mpr c7
                obtain rfl := Option.some.inj H
                have p151 : 0 ≤ (x5_1 : Int) := of_decide_eq_true (by first | (with_reducible assumption) | assumption)
                have q151 : x5_1 < (l0.length : Int) := of_decide_eq_true (by first | (with_reducible assumption) | assumption)
                obtain ⟨ad151, e151, hx151_0⟩ := Kd.at_int HR0.out x5_1 p151 q151
                cases e151
                replace p151 := eq_true p151
                replace q151 := eq_true q151
                have p152 : 0 ≤ (x5_1 : Int) := of_decide_eq_true (by first | (with_reducible assumption) | assumption)
                have q152 : x5_1 < (l1.length : Int) := of_decide_eq_true (by first | (with_reducible assumption) | assumption)
                obtain ⟨ad152, e152, hx152_0⟩ := Kd.at_int HR1.out x5_1 p152 q152
                cases e152
                replace p152 := eq_true p152
                replace q152 := eq_true q152
                go_wp2
                repeat (go_quiet (fail); try go_wp2)
                go_ret
                exact ⟨by first | rfl | (simp; done) | (simp [*]; done), by repeat (first | exact Drawn0.refl _ | apply Drawn0.step)⟩
            · rw [if_neg c6] at H
              exact absurd H (by simp)
          · rw [if_neg c5] at H
            exact absurd H (by simp)
        · rw [if_neg c4] at H
          have c4b0 : decide (x5_1 < (l0.length : Int)) = false := decide_eq_false c4
          clear c4
          obtain rfl := Option.some.inj H
          go_wp2
          repeat (go_quiet (fail); try go_wp2)
          go_ret
          exact ⟨by first | rfl | (simp; done) | (simp [*]; done), by repeat (first | exact Drawn0.refl _ | apply Drawn0.step)⟩
  · rw [if_neg c3] at H
    have c3b0 : ((l0.length : Int) == (l1.length : Int)) = false := beq_eq_false_iff_ne.mpr c3
    have c3b1 : ((l0.length : Int) != (l1.length : Int)) = true := bne_iff_ne.mpr c3
    have c3b2 : (l0.length == l1.length) = false := by first | simpa using c3 | (simp at c3 ⊢; omega)
    obtain rfl := Option.some.inj H
    go_enter Try.func60, Try.ntmps60
    go_wp2
    repeat (go_quiet (fail); try go_wp2)
    go_ret
    exact ⟨by first | rfl | (simp; done) | (simp [*]; done), by repeat (first | exact Drawn0.refl _ | apply Drawn0.step)⟩

end Go.Proofs.Ytdbeochifofdoaa.X
end

section
-- Written by a program of this session (wip/hook.py, which runs the kit's print.py with contracts proved by hand). Not trusted: Lean checks it.
namespace Go.Proofs.Ytdbeochifofdoaa.X
open Go.RowKit Go.Proofs.YtdbeochifofdoaaW.PrintWords Go.Proofs.YtdbeochifofdoaaW.PrintLast Go.Proofs.YtdbeochifofdoaaW.PrintMore
attribute [local go_sem] max2_int min2_int max_two min_two max_three min_three max_four min_four   -- for this text's walks alone
set_option linter.unusedVariables false
set_option linter.unusedSimpArgs false

/-! ### verditerref06_SameLists: function 53 -/
def verditerref06_SameLists.l0 : Nat → List (List Int) → List (List Int) → Int → Option (Bool)
  | 0, _, _, _ => none
  | k + 1, x0, x1, x5 => if x5 < (x0.length : Int) then (if 0 ≤ x5 then (if x5 < (x1.length : Int) then ((verditerref06_SameInts.f k (rd_L5 x0 x5) (rd_L5 x1 x5)).bind fun t155 => (if t155 = true then (verditerref06_SameLists.l0 k x0 x1 (wrap64 (x5 + 1))) else (some false))) else (none)) else (none)) else (some true)
def verditerref06_SameLists.f (k : Nat) (l0 : List (List Int)) (l1 : List (List Int)) : Option (Bool) := if (l0.length : Int) = (l1.length : Int) then (verditerref06_SameLists.l0 k l0 l1 0) else (some false)
theorem verditerref06_SameLists.mono_l : ∀ k, (∀ y0 y1 y2, LeO (verditerref06_SameLists.l0 k y0 y1 y2) (verditerref06_SameLists.l0 (k + 1) y0 y1 y2))
  | 0 => fun _ _ _ r h => by simp [verditerref06_SameLists.l0] at h
  | k + 1 => by
    have ih0 := verditerref06_SameLists.mono_l k
    · intro y0 y1 y2
      unfold verditerref06_SameLists.l0
      repeat' first
      | (with_reducible exact ih0 _ _ _)
      | (with_reducible exact verditerref06_SameInts.mono _ _ _)
      | (with_reducible exact LeO.refl _)
      | (with_reducible exact LeO.none _)
      | (with_reducible refine LeO.ite ?_ ?_)
      | (with_reducible refine LeO.bind ?_ (fun _ => ?_))
      | exact ih0 _ _ _
      | exact verditerref06_SameInts.mono _ _ _
      | exact LeO.none _
      | refine LeO.ite ?_ ?_
      | refine LeO.bind ?_ (fun _ => ?_)
theorem verditerref06_SameLists.mono : ∀ a0 a1 k, LeO (verditerref06_SameLists.f k a0 a1) (verditerref06_SameLists.f (k + 1) a0 a1) := by
  intro a0 a1 k
  have ih0 := verditerref06_SameLists.mono_l k
  unfold verditerref06_SameLists.f
  repeat' first
      | (with_reducible exact ih0 _ _ _)
      | (with_reducible exact verditerref06_SameInts.mono _ _ _)
      | (with_reducible exact LeO.refl _)
      | (with_reducible exact LeO.none _)
      | (with_reducible refine LeO.ite ?_ ?_)
      | (with_reducible refine LeO.bind ?_ (fun _ => ?_))
      | exact ih0 _ _ _
      | exact verditerref06_SameInts.mono _ _ _
      | exact LeO.none _
      | refine LeO.ite ?_ ?_
      | refine LeO.bind ?_ (fun _ => ?_)
set_option maxHeartbeats 8000000 in
set_option maxRecDepth 100000 in
theorem verditerref06_SameLists.calls (k : Nat) (A0 : Option Addr) (c0 : Nat) (l0 : List (List Int)) (A1 : Option Addr) (c1 : Nat) (l1 : List (List Int)) (r : Bool) (w : World) (hr0 : Kd.C (Kd.slice 3 (Kd.int .i64)) w A0 l0.length l0) (hc0 : l0.length ≤ c0) (hr1 : Kd.C (Kd.slice 3 (Kd.int .i64)) w A1 l1.length l1) (hc1 : l1.length ≤ c1) (h : verditerref06_SameLists.f k l0 l1 = some r) :
    Calls Try.prog 53 #[.slice A0 l0.length c0, .slice A1 l1.length c1] w fun e w' => e = .returned (.bool r) ∧ Drawn0 w w' := by
  have HR0 := Aside0.mk hr0
  have HC0 := Aside0.mk hc0
  clear hr0 hc0
  have HR1 := Aside0.mk hr1
  have HC1 := Aside0.mk hc1
  clear hr1 hc1
  have H : (if (l0.length : Int) = (l1.length : Int) then (verditerref06_SameLists.l0 k l0 l1 0) else (some false)) = some r := h
  clear h
  by_cases c3 : (l0.length : Int) = (l1.length : Int)
  · rw [if_pos c3] at H
    have c3b0 : ((l0.length : Int) == (l1.length : Int)) = true := beq_iff_eq.mpr c3
    have c3b1 : ((l0.length : Int) != (l1.length : Int)) = false := bne_eq_false_iff_eq.mpr c3
    have c3b2 : (l0.length == l1.length) = true := by first | simpa using c3 | (simp at c3 ⊢; omega)
    clear c3
    have H' := Aside0.mk H
    clear H
    go_enter Try.func53, Try.ntmps53
    go_wp2
    repeat (go_quiet (fail); try go_wp2)
    go_loopg [5] k (fun kq v5 w' => ∃ (x5_1 : Int), v5 = .int .i64 x5_1 ∧ Aside0 (verditerref06_SameLists.l0 kq l0 l1 x5_1 = some r) ∧ Aside0 (kq ≤ k) ∧ Drawn0 w w')
    case atStart => exact ⟨(0), (by first | rfl | (simp; done) | (simp [*]; done)), H', ⟨Nat.le_refl _⟩, by repeat (first | exact Drawn0.refl _ | apply Drawn0.step)⟩
    case round =>
      clear H'
      try clear c1
      try clear p2
      try clear c3
      try clear c3b0
      try clear c3b1
      try clear c3b2
      obtain ⟨x5_1, rfl, HA, HK1, ⟨m1, rfl⟩⟩ := hrel
      cases gk with
      | zero => exact absurd HA.out (by simp [verditerref06_SameLists.l0])
      | succ k1 =>
        have H := HA.out
        clear HA
        simp only [verditerref06_SameLists.l0] at H
        by_cases c4 : x5_1 < (l0.length : Int)
        · rw [if_pos c4] at H
          have c4b0 : decide (x5_1 < (l0.length : Int)) = true := decide_eq_true c4
          clear c4
          by_cases c5 : 0 ≤ x5_1
          · rw [if_pos c5] at H
            have c5b0 : decide (0 ≤ x5_1) = true := decide_eq_true c5
            clear c5
            by_cases c6 : x5_1 < (l1.length : Int)
            · rw [if_pos c6] at H
              have c6b0 : decide (x5_1 < (l1.length : Int)) = true := decide_eq_true c6
              clear c6
              replace H := Option.bind_eq_some_iff.mp H
              obtain ⟨t155, A70, H⟩ := H
              replace H : (if t155 = true then (verditerref06_SameLists.l0 k1 l0 l1 (wrap64 (x5_1 + 1))) else (some false)) = some r := H
              have A7 := Aside0.mk A70
              clear A70
              by_cases c8 : t155 = true
              · subst c8
                have H1 : (verditerref06_SameLists.l0 k1 l0 l1 (wrap64 (x5_1 + 1))) = some r := by rw [if_pos rfl] at H; exact H
                clear H
                have H := H1
                clear H1
                have H' := Aside0.mk H
                clear H
                have p153 : 0 ≤ (x5_1 : Int) := of_decide_eq_true (by first | (with_reducible assumption) | assumption)
                have q153 : x5_1 < (l0.length : Int) := of_decide_eq_true (by first | (with_reducible assumption) | assumption)
                obtain ⟨ad153, A153_0, c153_0, e153, hx153_0, hl153_0, hi153_0⟩ := at_L5 HR0.out x5_1 p153 q153
                cases e153
                have HR153_0 := Aside0.mk hi153_0
                have HC153_0 := Aside0.mk hl153_0
                clear hi153_0 hl153_0
                replace p153 := eq_true p153
                replace q153 := eq_true q153
                have p154 : 0 ≤ (x5_1 : Int) := of_decide_eq_true (by first | (with_reducible assumption) | assumption)
                have q154 : x5_1 < (l1.length : Int) := of_decide_eq_true (by first | (with_reducible assumption) | assumption)
                obtain ⟨ad154, A154_0, c154_0, e154, hx154_0, hl154_0, hi154_0⟩ := at_L5 HR1.out x5_1 p154 q154
                cases e154
                have HR154_0 := Aside0.mk hi154_0
                have HC154_0 := Aside0.mk hl154_0
                clear hi154_0 hl154_0
                replace p154 := eq_true p154
                replace q154 := eq_true q154
                go_wp2_with (first | (go_at_call 60; (with_reducible refine (verditerref06_SameInts.calls k1 _ _ (rd_L5 l0 x5_1) _ _ (rd_L5 l1 x5_1) true _ ?side1 ?side2 ?side3 ?side4 A7.out).mono ?_); (case side1 => repeat (first | exact HR153_0.out | (with_reducible refine Kd.C_alloc ?_ _) | (with_reducible refine Kd.C_drewN ?_ _) | (with_reducible refine Kd.C_drew ?_))); (case side2 => exact HC153_0.out); (case side3 => repeat (first | exact HR154_0.out | (with_reducible refine Kd.C_alloc ?_ _) | (with_reducible refine Kd.C_drewN ?_ _) | (with_reducible refine Kd.C_drew ?_))); (case side4 => exact HC154_0.out); rintro e w' ⟨rfl, ⟨nd, rfl⟩⟩; (try first | exact ⟨rfl, _, World.drewN_drewN _ _ _⟩ | exact ⟨rfl, _, Eq.trans (World.drewN_drewN _ _ _) (congrArg (World.drewN _) (Nat.add_assoc _ _ _))⟩)))
                repeat (go_quiet (first | (go_at_call 60; (with_reducible refine (verditerref06_SameInts.calls k1 _ _ (rd_L5 l0 x5_1) _ _ (rd_L5 l1 x5_1) true _ ?side1 ?side2 ?side3 ?side4 A7.out).mono ?_); (case side1 => repeat (first | exact HR153_0.out | (with_reducible refine Kd.C_alloc ?_ _) | (with_reducible refine Kd.C_drewN ?_ _) | (with_reducible refine Kd.C_drew ?_))); (case side2 => exact HC153_0.out); (case side3 => repeat (first | exact HR154_0.out | (with_reducible refine Kd.C_alloc ?_ _) | (with_reducible refine Kd.C_drewN ?_ _) | (with_reducible refine Kd.C_drew ?_))); (case side4 => exact HC154_0.out); rintro e w' ⟨rfl, ⟨nd, rfl⟩⟩; (try first | exact ⟨rfl, _, World.drewN_drewN _ _ _⟩ | exact ⟨rfl, _, Eq.trans (World.drewN_drewN _ _ _) (congrArg (World.drewN _) (Nat.add_assoc _ _ _))⟩))); try go_wp2_with (first | (go_at_call 60; (with_reducible refine (verditerref06_SameInts.calls k1 _ _ (rd_L5 l0 x5_1) _ _ (rd_L5 l1 x5_1) true _ ?side1 ?side2 ?side3 ?side4 A7.out).mono ?_); (case side1 => repeat (first | exact HR153_0.out | (with_reducible refine Kd.C_alloc ?_ _) | (with_reducible refine Kd.C_drewN ?_ _) | (with_reducible refine Kd.C_drew ?_))); (case side2 => exact HC153_0.out); (case side3 => repeat (first | exact HR154_0.out | (with_reducible refine Kd.C_alloc ?_ _) | (with_reducible refine Kd.C_drewN ?_ _) | (with_reducible refine Kd.C_drew ?_))); (case side4 => exact HC154_0.out); rintro e w' ⟨rfl, ⟨nd, rfl⟩⟩; (try first | exact ⟨rfl, _, World.drewN_drewN _ _ _⟩ | exact ⟨rfl, _, Eq.trans (World.drewN_drewN _ _ _) (congrArg (World.drewN _) (Nat.add_assoc _ _ _))⟩))))
                go_roundg k1
                case measure => have := HK1.out; omega
                case rel => exact ⟨(wrap64 (x5_1 + 1)), (by first | rfl | (simp; done) | (simp [*]; done)), H', ⟨by have := HK1.out; omega⟩, by repeat (first | exact Drawn0.refl _ | apply Drawn0.step)⟩
              · replace c8 := Bool.eq_false_iff.mpr c8
                subst c8
                have H1 : (some false) = some r := by rw [if_neg (show ¬ (false = true) by decide)] at H; exact H
                clear H
                have H := H1
                clear H1
                obtain rfl := Option.some.inj H
                have p153 : 0 ≤ (x5_1 : Int) := of_decide_eq_true (by first | (with_reducible assumption) | assumption)
                have q153 : x5_1 < (l0.length : Int) := of_decide_eq_true (by first | (with_reducible assumption) | assumption)
                obtain ⟨ad153, A153_0, c153_0, e153, hx153_0, hl153_0, hi153_0⟩ := at_L5 HR0.out x5_1 p153 q153
                cases e153
                have HR153_0 := Aside0.mk hi153_0
                have HC153_0 := Aside0.mk hl153_0
                clear hi153_0 hl153_0
                replace p153 := eq_true p153
                replace q153 := eq_true q153
                have p154 : 0 ≤ (x5_1 : Int) := of_decide_eq_true (by first | (with_reducible assumption) | assumption)
                have q154 : x5_1 < (l1.length : Int) := of_decide_eq_true (by first | (with_reducible assumption) | assumption)
                obtain ⟨ad154, A154_0, c154_0, e154, hx154_0, hl154_0, hi154_0⟩ := at_L5 HR1.out x5_1 p154 q154
                cases e154
                have HR154_0 := Aside0.mk hi154_0
                have HC154_0 := Aside0.mk hl154_0
                clear hi154_0 hl154_0
                replace p154 := eq_true p154
                replace q154 := eq_true q154
                go_wp2_with (first | (go_at_call 60; (with_reducible refine (verditerref06_SameInts.calls k1 _ _ (rd_L5 l0 x5_1) _ _ (rd_L5 l1 x5_1) false _ ?side1 ?side2 ?side3 ?side4 A7.out).mono ?_); (case side1 => repeat (first | exact HR153_0.out | (with_reducible refine Kd.C_alloc ?_ _) | (with_reducible refine Kd.C_drewN ?_ _) | (with_reducible refine Kd.C_drew ?_))); (case side2 => exact HC153_0.out); (case side3 => repeat (first | exact HR154_0.out | (with_reducible refine Kd.C_alloc ?_ _) | (with_reducible refine Kd.C_drewN ?_ _) | (with_reducible refine Kd.C_drew ?_))); (case side4 => exact HC154_0.out); rintro e w' ⟨rfl, ⟨nd, rfl⟩⟩; (try first | exact ⟨rfl, _, World.drewN_drewN _ _ _⟩ | exact ⟨rfl, _, Eq.trans (World.drewN_drewN _ _ _) (congrArg (World.drewN _) (Nat.add_assoc _ _ _))⟩)))
                repeat (go_quiet (first | (go_at_call 60; (with_reducible refine (verditerref06_SameInts.calls k1 _ _ (rd_L5 l0 x5_1) _ _ (rd_L5 l1 x5_1) false _ ?side1 ?side2 ?side3 ?side4 A7.out).mono ?_); (case side1 => repeat (first | exact HR153_0.out | (with_reducible refine Kd.C_alloc ?_ _) | (with_reducible refine Kd.C_drewN ?_ _) | (with_reducible refine Kd.C_drew ?_))); (case side2 => exact HC153_0.out); (case side3 => repeat (first | exact HR154_0.out | (with_reducible refine Kd.C_alloc ?_ _) | (with_reducible refine Kd.C_drewN ?_ _) | (with_reducible refine Kd.C_drew ?_))); (case side4 => exact HC154_0.out); rintro e w' ⟨rfl, ⟨nd, rfl⟩⟩; (try first | exact ⟨rfl, _, World.drewN_drewN _ _ _⟩ | exact ⟨rfl, _, Eq.trans (World.drewN_drewN _ _ _) (congrArg (World.drewN _) (Nat.add_assoc _ _ _))⟩))); try go_wp2_with (first | (go_at_call 60; (with_reducible refine (verditerref06_SameInts.calls k1 _ _ (rd_L5 l0 x5_1) _ _ (rd_L5 l1 x5_1) false _ ?side1 ?side2 ?side3 ?side4 A7.out).mono ?_); (case side1 => repeat (first | exact HR153_0.out | (with_reducible refine Kd.C_alloc ?_ _) | (with_reducible refine Kd.C_drewN ?_ _) | (with_reducible refine Kd.C_drew ?_))); (case side2 => exact HC153_0.out); (case side3 => repeat (first | exact HR154_0.out | (with_reducible refine Kd.C_alloc ?_ _) | (with_reducible refine Kd.C_drewN ?_ _) | (with_reducible refine Kd.C_drew ?_))); (case side4 => exact HC154_0.out); rintro e w' ⟨rfl, ⟨nd, rfl⟩⟩; (try first | exact ⟨rfl, _, World.drewN_drewN _ _ _⟩ | exact ⟨rfl, _, Eq.trans (World.drewN_drewN _ _ _) (congrArg (World.drewN _) (Nat.add_assoc _ _ _))⟩))))
                go_ret
                exact ⟨by first | rfl | (simp; done) | (simp [*]; done), by repeat (first | exact Drawn0.refl _ | apply Drawn0.step)⟩
            · rw [if_neg c6] at H
              exact absurd H (by simp)
          · rw [if_neg c5] at H
            exact absurd H (by simp)
        · rw [if_neg c4] at H
          have c4b0 : decide (x5_1 < (l0.length : Int)) = false := decide_eq_false c4
          clear c4
          obtain rfl := Option.some.inj H
          go_wp2
          repeat (go_quiet (fail); try go_wp2)
          go_ret
          exact ⟨by first | rfl | (simp; done) | (simp [*]; done), by repeat (first | exact Drawn0.refl _ | apply Drawn0.step)⟩
  · rw [if_neg c3] at H
    have c3b0 : ((l0.length : Int) == (l1.length : Int)) = false := beq_eq_false_iff_ne.mpr c3
    have c3b1 : ((l0.length : Int) != (l1.length : Int)) = true := bne_iff_ne.mpr c3
    have c3b2 : (l0.length == l1.length) = false := by first | simpa using c3 | (simp at c3 ⊢; omega)
    obtain rfl := Option.some.inj H
    go_enter Try.func53, Try.ntmps53
    go_wp2
    repeat (go_quiet (fail); try go_wp2)
    go_ret
    exact ⟨by first | rfl | (simp; done) | (simp [*]; done), by repeat (first | exact Drawn0.refl _ | apply Drawn0.step)⟩

end Go.Proofs.Ytdbeochifofdoaa.X
end

section
/-! Valid plans; the marks of the lots as a table, and the table in memory. -/
namespace Go.Proofs.Ytdbeochifofdoaa.X
open Go.RowKit Go.Proofs.YtdbeochifofdoaaW.PrintWords Go.Proofs.YtdbeochifofdoaaW.PrintLast Go.Proofs.YtdbeochifofdoaaW.PrintMore

/-- A weighing is in order. -/
structure OkW (lots : Int) (x : S53) : Prop where
  left : ∀ n, n ∈ x.f0 → 0 ≤ n ∧ n < lots
  right : ∀ n, n ∈ x.f1 → 0 ≤ n ∧ n < lots
  lset : isSetB lots x.f0 = true
  rset : isSetB lots x.f1 = true
  apart : ∀ n, n ∈ x.f0 → n ∉ x.f1
  even : x.f0.length = x.f1.length
structure OkP (lots : Int) (l : List S53) : Prop where
  lo : 1 ≤ lots
  hi : lots ≤ 13
  few : l.length ≤ 3
  each : ∀ x, x ∈ l → OkW lots x

theorem setFrom_range (c : Int) (l : List Int) : ∀ p, setFrom c p l = true → ∀ n, n ∈ l → 0 ≤ n ∧ n < c := by
  induction l with
  | nil => intro p _ n hn; cases hn
  | cons x xs ih =>
    intro p h n hn
    rw [setFrom_cons] at h
    simp only [Bool.and_eq_true, decide_eq_true_eq] at h
    rcases List.mem_cons.1 hn with rfl | hn
    · omega
    · exact ih _ h.2 n hn
theorem wErr_ok {lots : Int} {x : S53} (h : wErr lots x = 0) : OkW lots x := by
  unfold wErr at h
  by_cases h1 : (!isSetB lots x.f0 || !isSetB lots x.f1) = true
  · rw [if_pos h1] at h; cases h
  · rw [if_neg h1] at h
    simp only [Bool.or_eq_true, Bool.not_eq_true', not_or, Bool.not_eq_false] at h1
    by_cases h2 : x.f0.any (fun n => x.f1.contains n) = true
    · rw [if_pos h2] at h; cases h
    · rw [if_neg h2] at h
      by_cases h3 : x.f0.length = x.f1.length
      · refine ⟨setFrom_range _ _ _ h1.1, setFrom_range _ _ _ h1.2, h1.1, h1.2, fun n hn hm => h2 ?_, h3⟩
        rw [List.any_eq_true]
        exact ⟨n, hn, by simpa using hm⟩
      · rw [if_neg h3] at h; cases h
theorem ok_wErr {lots : Int} {x : S53} (h : OkW lots x) : wErr lots x = 0 := by
  unfold wErr
  rw [h.lset, h.rset, if_neg (by simp), if_neg, if_pos h.even]
  intro h2
  rw [List.any_eq_true] at h2
  obtain ⟨n, hn, hm⟩ := h2
  exact h.apart n hn (by simpa using hm)
theorem vErr_ok {lots : Int} : ∀ {l : List S53}, vErr lots l = 0 → ∀ x, x ∈ l → OkW lots x
  | [], _, x, hx => by cases hx
  | y :: ys, h, x, hx => by
    unfold vErr at h
    by_cases h1 : wErr lots y = 0
    · rw [if_pos h1] at h
      rcases List.mem_cons.1 hx with rfl | hx
      · exact wErr_ok h1
      · exact vErr_ok h x hx
    · rw [if_neg h1] at h; exact absurd h h1
theorem ok_vErr {lots : Int} : ∀ {l : List S53}, (∀ x, x ∈ l → OkW lots x) → vErr lots l = 0
  | [], _ => rfl
  | y :: ys, h => by
    unfold vErr
    rw [if_pos (ok_wErr (h y List.mem_cons_self))]
    exact ok_vErr fun x hx => h x (List.mem_cons_of_mem _ hx)
theorem pErr_ok {lots : Int} {l : List S53} (h : pErr lots l = 0) : OkP lots l := by
  unfold pErr at h
  by_cases h1 : 1 ≤ lots ∧ lots ≤ 13
  · rw [if_pos h1] at h
    by_cases h2 : 3 < l.length
    · rw [if_pos h2] at h; cases h
    · rw [if_neg h2] at h
      exact ⟨h1.1, h1.2, by omega, vErr_ok h⟩
  · rw [if_neg h1] at h; cases h
theorem ok_pErr {lots : Int} {l : List S53} (h : OkP lots l) : pErr lots l = 0 := by
  unfold pErr
  rw [if_pos ⟨h.lo, h.hi⟩, if_neg (by have := h.few; omega)]
  exact ok_vErr h.each

/-- A table with another number at a place. -/
def upd (f : Nat → Nat → Int) (n k : Nat) (v : Int) : Nat → Nat → Int := fun a b => if a = n ∧ b = k then v else f a b
/-- A table with v in column k, in the rows that l names. -/
def fsetl (k : Nat) (v : Int) : (Nat → Nat → Int) → List Int → Nat → Nat → Int
  | f, [] => f
  | f, x :: xs => fsetl k v (upd f x.toNat k v) xs
/-- A table with the columns from k on filled out of weighings. -/
def marksF : (Nat → Nat → Int) → Nat → List S53 → Nat → Nat → Int
  | f, _, [] => f
  | f, k, x :: xs => marksF (fsetl k (-1) (fsetl k 1 f x.f0) x.f1) (k + 1) xs
/-- A table's cells, m rows of three. -/
def flat (f : Nat → Nat → Int) (m : Nat) : Array Value := ((List.range (m * 3)).map fun i => Value.int .i64 (f (i / 3) (i % 3))).toArray
/-- A table's first m rows. -/
def rowsOf (f : Nat → Nat → Int) (m : Nat) : List S70 := (List.range m).map fun n => ⟨f n 0, f n 1, f n 2⟩
theorem flat_size (f : Nat → Nat → Int) (m : Nat) : (flat f m).size = m * 3 := by simp [flat]
theorem flat_get (f : Nat → Nat → Int) (m n k : Nat) (hn : n < m) (hk : k < 3) : (flat f m)[n * 3 + k]? = some (.int .i64 (f n k)) := by
  have h1 : n * 3 + k < m * 3 := by omega
  have h2 : (n * 3 + k) / 3 = n := by omega
  have h3 : (n * 3 + k) % 3 = k := by omega
  simp [flat, h1, h2, h3]
theorem flat_set (f : Nat → Nat → Int) (m n k : Nat) (v : Int) (hn : n < m) (hk : k < 3) : (flat f m).setIfInBounds (n * 3 + k) (.int .i64 v) = flat (upd f n k v) m := by
  apply Array.ext_getElem?
  intro i
  rw [Array.getElem?_setIfInBounds]
  by_cases hi : n * 3 + k = i
  · subst hi
    rw [if_pos rfl, if_pos (by rw [flat_size]; omega), flat_get _ m n k hn hk]
    simp [upd]
  · rw [if_neg hi]
    by_cases hb : i < m * 3
    · simp only [flat, List.getElem?_toArray, List.getElem?_map, List.getElem?_range hb, Option.map_some]
      rw [show upd f n k v (i / 3) (i % 3) = f (i / 3) (i % 3) from by unfold upd; rw [if_neg (by omega)]]
    · rw [Array.getElem?_eq_none (by rw [flat_size]; omega), Array.getElem?_eq_none (by rw [flat_size]; omega)]
theorem flat_made (m : Nat) : madeCells #[Value.int .i64 0, .int .i64 0, .int .i64 0] (m * 3) = flat (fun _ _ => 0) m := by
  apply Array.ext_getElem?
  intro i
  by_cases hb : i < m * 3
  · have h3 : i % 3 = 0 ∨ i % 3 = 1 ∨ i % 3 = 2 := by omega
    simp only [madeCells, flat, List.getElem?_toArray, List.getElem?_map, List.getElem?_range hb, Option.map_some, Array.getElem?_map]
    rw [Array.getElem?_range, if_pos hb]
    rcases h3 with h | h | h <;> simp [h]
  · rw [Array.getElem?_eq_none (by rw [size_madeCells]; omega), Array.getElem?_eq_none (by rw [flat_size]; omega)]
theorem flat_reps (f : Nat → Nat → Int) (m : Nat) (w : World) (base : Nat) (ok : Nat → Prop) : Reps (k70.M w base ok) 3 (rowsOf f m) (flat f m).toList := by
  refine ⟨by simp [rowsOf, flat], fun j p hj => ?_⟩
  obtain ⟨hjl, hp⟩ := List.getElem?_eq_some_iff.1 hj
  have hjm : j < m := by simpa [rowsOf] using hjl
  have hp' : p = ⟨f j 0, f j 1, f j 2⟩ := by rw [← hp]; simp [rowsOf]
  subst hp'
  have : ((flat f m).toList.drop (j * 3)).take 3 = [.int .i64 (f j 0), .int .i64 (f j 1), .int .i64 (f j 2)] := by
    apply List.ext_getElem?
    intro i
    rw [List.getElem?_take]
    by_cases hi : i < 3
    · rw [if_pos hi, List.getElem?_drop, Array.getElem?_toList, flat_get f m j i hjm hi]
      have : i = 0 ∨ i = 1 ∨ i = 2 := by omega
      rcases this with rfl | rfl | rfl <;> rfl
    · rw [if_neg hi, List.getElem?_eq_none (by simp; omega)]
  rw [this]
  exact k70_mkM w base ok ⟨f j 0, f j 1, f j 2⟩
/-- A table in a block of its own is a row of marks. -/
theorem flat_R {w : World} {g : Nat} (f : Nat → Nat → Int) (m base : Nat) (h : w.heap[g]? = some (.cells (flat f m) 70 (0, 0))) (hb : base ≤ g) (hm : m ≤ 1000) : Kd.R k70 70 w base (fun _ => True) (.slice (some ⟨g, 0, none⟩) m m) (rowsOf f m) := by
  have hlen : (rowsOf f m).length = m := by simp [rowsOf]
  refine ⟨fun _ _ => trivial, (flat f m).toList, ?_, ?_⟩
  · refine ⟨by rw [hlen]; simp [flat]; rfl, .inr ⟨g, m, flat f m, by rw [hlen], hb, h, ?_⟩⟩
    refine ⟨by rw [hlen]; exact Nat.le_refl _, by unfold maxLen; omega, flat_size f m, ?_⟩
    rw [hlen]
    exact List.take_of_length_le (by rw [Array.length_toList, flat_size]; exact Nat.le_refl _)
  · exact (flat_reps f m w base _).imp_ (fun _ _ hp => hp)
end Go.Proofs.Ytdbeochifofdoaa.X
end

section
/-! weigh.classes. -/
namespace Go.Proofs.Ytdbeochifofdoaa.X
open Go.RowKit Go.Proofs.YtdbeochifofdoaaW.PrintWords Go.Proofs.YtdbeochifofdoaaW.PrintLast Go.Proofs.YtdbeochifofdoaaW.PrintMore
set_option linter.unusedVariables false
set_option linter.unusedSimpArgs false

def getk (m : S70) (k : Nat) : Int := if k = 0 then m.f0 else if k = 1 then m.f1 else m.f2
def setk (m : S70) (k : Nat) (n : Int) : S70 := if k = 0 then ⟨n, m.f1, m.f2⟩ else if k = 1 then ⟨m.f0, n, m.f2⟩ else ⟨m.f0, m.f1, n⟩
def cells3 (m : S70) : Array Value := #[.int .i64 m.f0, .int .i64 m.f1, .int .i64 m.f2]
theorem cells3_set (m : S70) (k : Nat) (hk : k < 3) (n : Int) : (cells3 m).setIfInBounds k (.int .i64 n) = cells3 (setk m k n) := by
  rcases (show k = 0 ∨ k = 1 ∨ k = 2 by omega) with rfl | rfl | rfl <;> simp [cells3, setk]
theorem cells3_get (m : S70) (k : Nat) (hk : k < 3) : (cells3 m)[k]? = some (.int .i64 (getk m k)) := by
  rcases (show k = 0 ∨ k = 1 ∨ k = 2 by omega) with rfl | rfl | rfl <;> simp [cells3, getk]
/-- The marks that the innermost loop appends from the number n on, d of them. -/
def exp3 (k : Nat) : Nat → Int → S70 → List S70
  | 0, _, _ => []
  | d + 1, n, m => setk m k n :: exp3 k d (n + 1) (setk m k n)
def expL (k : Nat) (l : List S70) : List S70 := l.flatMap (exp3 k 3 (-1))
/-- All marks of so many weighings, in their order. -/
def fullC : Nat → List S70
  | 0 => [z70]
  | k + 1 => expL k (fullC k)
def classC (w : Nat) : List S70 := (fullC w).drop ((fullC w).length / 2 + 1)
theorem exp3_len (k d : Nat) : ∀ n m, (exp3 k d n m).length = d := by
  induction d with
  | zero => intro n m; rfl
  | succ d ih => intro n m; simp [exp3, ih]
theorem expL_len (k : Nat) (l : List S70) : (expL k l).length = l.length * 3 := by
  induction l with
  | nil => rfl
  | cons x xs ih =>
    have : expL k (x :: xs) = exp3 k 3 (-1) x ++ expL k xs := rfl
    rw [this, List.length_append, exp3_len, ih, List.length_cons]; omega
theorem fullC_len (w : Nat) : (fullC w).length = 3 ^ w := by
  induction w with
  | zero => rfl
  | succ k ih => rw [fullC, expL_len, ih, Nat.pow_succ]

set_option maxHeartbeats 8000000 in
set_option maxRecDepth 100000 in
theorem classes_calls (n : Nat) (hn : n ≤ 3) (w : World) :
    Calls Try.prog 86 #[.int .i64 n] w fun e w' => ∃ (A : Option Addr) (c : Nat), e = .returned (.slice A (classC n).length c) ∧ (classC n).length ≤ c ∧ Kd.C k70 w' A (classC n).length (classC n) ∧ Below w.heap.size w w' := by
  go_enter Try.func86, Try.ntmps86
  go_wp2
  go_loopg [3, 12] n (fun gg v3 s wr => ∃ k : Nat, k ≤ n ∧ n - k ≤ gg ∧ s = .int .i64 k ∧ Aside0 (Kd.R k70 70 wr w.heap.size (fun _ => True) v3 (fullC k)) ∧ Aside0 (Below w.heap.size w wr))
  case atStart =>
    refine ⟨0, Nat.zero_le _, by omega, rfl, ⟨?_⟩, ⟨below_alloc (Below.refl _ _) _⟩⟩
    exact flat_R (fun _ _ => 0) 1 w.heap.size (blk_new w _) (Nat.le_refl _) (by omega)
  case round =>
    obtain ⟨k, hk, hg, rfl, HR, BW⟩ := hrel
    obtain ⟨A, c, rfl⟩ := Kd.R_slice HR.out
    obtain ⟨_, hLc, hC⟩ := Kd.R_reads' HR.out
    have hL27 : (fullC k).length ≤ 27 := by rw [fullC_len]; exact Nat.le_trans (Nat.pow_le_pow_right (by omega) (show k ≤ 3 by omega)) (by decide)
    by_cases hkn : k < n
    · have hknz : (k : Int) < (n : Int) := by omega
      have hk3 : k < 3 := by omega
      have HE := Aside0.mk (show expL k (fullC k) = fullC (k + 1) from rfl)
      have hL9 : (fullC k).length ≤ 9 := by rw [fullC_len]; exact Nat.le_trans (Nat.pow_le_pow_right (by omega) (show k ≤ 2 by omega)) (by decide)
      generalize fullC k = L at *
      have HC := Aside0.mk hC
      clear hC
      obtain ⟨wo, rfl⟩ : ∃ q : World, q = wr := ⟨_, rfl⟩
      obtain ⟨go, rfl⟩ : ∃ q : Nat, q = gk := ⟨_, rfl⟩
      go_wp2
      go_loopg [5, 17] L.length (fun gg v5 s wi => ∃ (i : Nat) (ys : List S70), i ≤ L.length ∧ L.length - i ≤ gg ∧ s = .int .i64 i ∧ Aside0 (Kd.R k70 70 wi wo.heap.size (fun _ => True) v5 ys) ∧ Aside0 (Below wo.heap.size wo wi) ∧ Aside0 (ys ++ expL k (L.drop i) = fullC (k + 1)))
      case atStart => exact ⟨0, [], Nat.zero_le _, by omega, rfl, ⟨Kd.R_nil _ _ _ _ _⟩, ⟨Below.refl _ _⟩, ⟨by rw [← HE.out]; simp⟩⟩
      case round =>
        obtain ⟨i, ys, hi, hgi, rfl, HO, BI, AI⟩ := hrel
        obtain ⟨Ay, cy, rfl⟩ := Kd.R_slice HO.out
        by_cases hil : i < L.length
        · have hilz : (i : Int) < (L.length : Int) := by omega
          obtain ⟨ad, e1, hx0, hx1, hx2⟩ := at_T70 HC.out i (by omega) hilz
          cases e1
          replace hx0 := (BI.out.cell (World.block_lt_of_cell? wo _ hx0)).trans hx0
          replace hx1 := (BI.out.cell (World.block_lt_of_cell? wo _ hx1)).trans hx1
          replace hx2 := (BI.out.cell (World.block_lt_of_cell? wo _ hx2)).trans hx2
          simp only [Int.toNat_natCast] at hx0 hx1 hx2
          rw [show rd_T70 L (i : Int) = L.getD i z70 from rfl] at hx0 hx1 hx2
          have Bi : Aside0 (expL k (L.drop i) = exp3 k 3 (-1) (L.getD i z70) ++ expL k (L.drop (i + 1))) := ⟨by rw [dropD z70 L i hil]; rfl⟩
          generalize L.getD i z70 = m at *
          obtain ⟨wp, rfl⟩ : ∃ q : World, q = wr := ⟨_, rfl⟩
          obtain ⟨gp, rfl⟩ : ∃ q : Nat, q = gk := ⟨_, rfl⟩
          have HWO : Aside0 (wo.heap.size ≤ wp.heap.size) := ⟨BI.out.size⟩
          go_wp2
          go_loopg [5, 8] 4 (fun gg v5 s wi => ∃ (d : Nat) (n0 : Int) (m1 : S70) (zs : List S70), d ≤ 3 ∧ d < gg ∧ n0 + d = 2 ∧ s = .int .i64 n0 ∧ Aside0 (wi.heap[wp.heap.size]? = some (.cells (cells3 m1) 70 (0, 0))) ∧ Aside0 (Kd.R k70 70 wi wo.heap.size (fun q => q ≠ wp.heap.size) v5 zs) ∧ Aside0 (Below wo.heap.size wo wi) ∧ Aside0 (wp.heap.size < wi.heap.size) ∧ Aside0 (zs ++ exp3 k d n0 m1 ++ expL k (L.drop (i + 1)) = fullC (k + 1)))
          case atStart =>
            refine ⟨3, -1, m, ys, by omega, by omega, by omega, rfl, ⟨blk_new _ _⟩, ⟨?_⟩, ⟨BI.out.alloc BI.out.size _⟩, ⟨by simp⟩, ⟨?_⟩⟩
            · exact Kd.R_alloc (Kd.R_mono (Kd.R_bound HO.out) (fun q hq => by have := hq.2.2.1; omega)) _
            · rw [← AI.out, Bi.out, List.append_assoc]
          case round =>
            clear HO BI hx0 hx1 hx2
            obtain ⟨d, n0, m1, zs, hd, hgd, hn0, rfl, HX, HO, BI, SZ, AZ⟩ := hrel
            obtain ⟨Az, cz, rfl⟩ := Kd.R_slice HO.out
            rcases d with _ | d
            · have hnn : 1 < n0 := by omega
              go_wp2
              go_roundg (L.length - (i + 1))
              case measure => omega
              case rel =>
                refine ⟨i + 1, zs, by omega, by omega, by go_num, ⟨Kd.R_mono HO.out (fun _ _ => trivial)⟩, BI, ⟨?_⟩⟩
                have h := AZ.out
                simpa [exp3] using h
            · have hnn : n0 ≤ 1 := by omega
              have hn1 : -1 ≤ n0 := by omega
              have hst : wr.cell? ⟨wp.heap.size, k, none⟩ = some (.int .i64 (getk m1 k)) := (blk_cell HX.out _).trans (cells3_get m1 k hk3)
              have hfz : wr.frozen? ⟨wp.heap.size, k, none⟩ = false := blk_frozen HX.out _
              go_upto_region 13 with (fail)
              have hX1 := blk_set HX.out k (.int .i64 n0)
              rw [cells3_set m1 k hk3] at hX1
              have hO1 := Kd.R_far HO.out (p := ⟨wp.heap.size, k, none⟩) (fun q hq => hq) (.int .i64 n0)
              have hB1 := BI.out.setCell (p := ⟨wp.heap.size, k, none⟩) (by have := HWO.out; exact this) (.int .i64 n0)
              have hZ1 : wp.heap.size < (wr.setCell ⟨wp.heap.size, k, none⟩ (.int .i64 n0)).heap.size := by have := SZ.out; simpa using this
              have AZ1 : Aside0 (zs ++ [setk m1 k n0] ++ exp3 k d (n0 + 1) (setk m1 k n0) ++ expL k (L.drop (i + 1)) = fullC (k + 1)) := ⟨by rw [← AZ.out, exp3]; simp⟩
              have hzl : zs.length ≤ 27 := by
                have h := congrArg List.length AZ.out
                rw [fullC_len, List.length_append, List.length_append] at h
                have h3 : (3 : Nat) ^ (k + 1) ≤ 3 ^ 3 := Nat.pow_le_pow_right (by omega) (by omega)
                have h4 : (3 : Nat) ^ 3 = 27 := by decide
                omega
              generalize wr.setCell ⟨wp.heap.size, k, none⟩ (.int .i64 n0) = W1 at hX1 hO1 hB1 hZ1 ⊢
              generalize setk m1 k n0 = m2 at *
              have HX1 := Aside0.mk hX1
              have HO1 := Aside0.mk hO1
              have HB1 := Aside0.mk hB1
              have HZ1 := Aside0.mk hZ1
              have c0 := blk_cell hX1 0
              have c1 := blk_cell hX1 1
              have c2 := blk_cell hX1 2
              rw [show (cells3 m2)[0]? = some (.int .i64 m2.f0) from rfl] at c0
              rw [show (cells3 m2)[1]? = some (.int .i64 m2.f1) from rfl] at c1
              rw [show (cells3 m2)[2]? = some (.int .i64 m2.f2) from rfl] at c2
              clear hX1 hO1 hB1 hZ1 hst hfz HX HO BI SZ AZ
              go_wp2_with (first | (at_builtin; refine Kd.R_append k70 (w0 := wo) wo.heap.size rfl (.tmp 28) (.tmp 30) 59 70 (.agg #[.int .i64 0, .int .i64 0, .int .i64 0]) 24 rfl Try.underlying59 info70 rfl (by decide) (by omega) (.slice Az zs.length cz) zs m2 [.int .i64 m2.f0, .int .i64 m2.f1, .int .i64 m2.f2] (fun q => q ≠ wp.heap.size) (fun _ => False) rfl rfl (k70_mkM _ _ _ m2) (fun _ h => h.elim) ?aF HO1.out HB1.out HB1.out.size ?aL ?_))
              case aF => intro q hq; have := HZ1.out; omega
              case aL => omega
              intro v1 w3 hR3 hB3 hG3 _
              have hX3 := blk_grown HX1.out hG3 (Kd.R_away HO1.out (fun q hq => hq))
              have HX3 := Aside0.mk hX3
              have HR3 := Aside0.mk hR3
              have HB3 := Aside0.mk hB3
              have HZ3 : Aside0 (wp.heap.size < w3.heap.size) := ⟨blk_lt hX3⟩
              clear hX3 hR3 hB3 hG3
              go_wp2
              go_roundg (d + 1)
              case measure => omega
              case rel => exact ⟨d, n0 + 1, m2, _, by omega, by omega, by omega, rfl, HX3, HR3, HB3, HZ3, AZ1⟩
        · have hilz : ¬ (i : Int) < (L.length : Int) := by omega
          have hA : ys = fullC (k + 1) := by
            have h := AI.out
            rw [List.drop_eq_nil_of_le (by omega)] at h
            simpa [expL] using h
          have HYA := Aside0.mk hA
          clear hA
          go_wp2
          go_roundg (n - (k + 1))
          case measure => omega
          case rel =>
            refine ⟨k + 1, by omega, by omega, by go_num, ⟨?_⟩, ⟨BW.out.trans (BI.out.mono BW.out.size)⟩⟩
            rw [← HYA.out]
            exact Kd.R_lower HO.out BW.out.size
    · have hknz : ¬ (k : Int) < (n : Int) := by omega
      obtain rfl : k = n := by omega
      clear hC
      have hpos : 1 ≤ (fullC k).length := by rw [fullC_len]; exact Nat.one_le_pow _ _ (by decide)
      have hQ := Kd.Q_reads' (Kd.Q_drop (k := (fullC k).length / 2 + 1) (Kd.Q_of_R HR.out) (by omega))
      have HQ : Aside0 ((classC k).length = (fullC k).length - ((fullC k).length / 2 + 1) ∧ (fullC k).length - ((fullC k).length / 2 + 1) ≤ c - ((fullC k).length / 2 + 1) ∧ Kd.C k70 wr (if c = (fullC k).length / 2 + 1 then A else A.map (·.add (((fullC k).length / 2 + 1) * k70.sz))) (classC k).length (classC k)) := ⟨hQ.1.symm, by omega, hQ.2.2⟩
      clear hQ
      generalize hLn : (fullC k).length = ln at *
      have HLN := Aside0.mk hLn
      clear hLn
      by_cases hcc : c = ln / 2 + 1
      · rw [if_pos hcc] at HQ
        have hq : (ln / 2 + 1 : Nat) ≤ ln := by omega
        go_wp2
        all_goals first | (exfalso; omega) | skip
        all_goals go_ret
        all_goals refine ⟨A, c - (ln / 2 + 1), ?_, by rw [HQ.out.1]; exact HQ.out.2.1, HQ.out.2.2, BW.out⟩
        all_goals rw [HQ.out.1]
        all_goals first | rfl | (simp [hcc])
      · rw [if_neg hcc] at HQ
        go_wp2
        all_goals first | (exfalso; omega) | skip
        all_goals go_ret
        all_goals refine ⟨A.map (·.add ((ln / 2 + 1) * 3)), c - (ln / 2 + 1), ?_, by rw [HQ.out.1]; exact HQ.out.2.1, HQ.out.2.2, BW.out⟩
        all_goals rw [HQ.out.1]
        all_goals first | rfl | (simp [hcc])
end Go.Proofs.Ytdbeochifofdoaa.X
end

section
/-! weigh.marks. -/
namespace Go.Proofs.Ytdbeochifofdoaa.X
open Go.RowKit Go.Proofs.YtdbeochifofdoaaW.PrintWords Go.Proofs.YtdbeochifofdoaaW.PrintLast Go.Proofs.YtdbeochifofdoaaW.PrintMore
set_option linter.unusedVariables false
set_option linter.unusedSimpArgs false

/-- The marks of the lots, as weigh.marks makes them, of a plan that is in order. -/
def marksL (lots : Int) (l : List S53) : List S70 := rowsOf (marksF (fun _ _ => 0) 0 l) lots.toNat
def weigh_marks.f (a0 : Int) (l1 : List S53) : Option (List S70) := if pErr a0 l1 = 0 then some (marksL a0 l1) else none

set_option maxHeartbeats 4000000 in
set_option maxRecDepth 100000 in
theorem weigh_marks.calls (a0 : Int) (A1 : Option Addr) (c1 : Nat) (l1 : List S53) (r : List S70) (w : World) (hr1 : Kd.C k53 w A1 l1.length l1) (hc1 : l1.length ≤ c1) (h : weigh_marks.f a0 l1 = some r) :
    Calls Try.prog 90 #[.int .i64 a0, .slice A1 l1.length c1] w fun e w' => ∃ v0_ : Value, e = .returned (v0_) ∧ Kd.R k70 70 w' w.heap.size (fun _ => True) v0_ r ∧ Below w.heap.size w w' := by
  unfold weigh_marks.f at h
  by_cases hp : pErr a0 l1 = 0
  rotate_left
  · rw [if_neg hp] at h; cases h
  rw [if_pos hp] at h
  obtain rfl := Option.some.inj h
  have OK := Aside0.mk (pErr_ok hp)
  obtain ⟨m, rfl⟩ := Int.eq_ofNat_of_zero_le (show 0 ≤ a0 by have := OK.out.lo; omega)
  have hm1 : 1 ≤ m := by have := OK.out.lo; omega
  have hm2 : m ≤ 13 := by have := OK.out.hi; omega
  have hl3 : l1.length ≤ 3 := OK.out.few
  have HR := Aside0.mk hr1
  clear h hp hr1 hc1
  have hmk : ∀ W : World, (Instr.makeSlice 59 (.int .i64 (m : Int)) (.int .i64 (m : Int))).run Try.prog W = .ok (.slice (some ⟨W.heap.size, 0, none⟩) m m) (W.alloc (.cells (flat (fun _ _ => 0) m) 70)) := by
    intro W
    obtain ⟨i0, hi, hz0, hz1, hz2⟩ := info_parts info70
    have h := run_make (P := Try.prog) W 59 70 i0 _ Try.underlying59 hi hz0 .i64 .i64 (m : Int) (m : Int) (by omega) (by omega) (by rw [hz2]; omega) (by omega)
    simp only [Int.toNat_natCast] at h
    rw [hz1] at h
    rw [h, ← flat_made]
    rfl
  unfold marksL
  rw [Int.toNat_natCast]
  generalize hF : marksF (fun _ _ => 0) 0 l1 = F
  have HF := Aside0.mk hF
  clear hF
  go_enter Try.func90, Try.ntmps90
  go_wp2
  clear hmk
  go_loopg [16] l1.length (fun gg s16 wr => ∃ (kk : Nat) (f : Nat → Nat → Int), kk ≤ l1.length ∧ l1.length - kk ≤ gg ∧ s16 = .int .i64 kk ∧ Aside0 (Below w.heap.size w wr) ∧ Aside0 (w.heap.size < wr.heap.size) ∧ Aside0 (wr.heap[w.heap.size]? = some (.cells (flat f m) 70 (0, 0))) ∧ Aside0 (marksF f kk (l1.drop kk) = F))
  case atStart => exact ⟨0, fun _ _ => 0, Nat.zero_le _, by omega, rfl, ⟨below_alloc (Below.refl _ _) _⟩, ⟨by simp⟩, ⟨blk_new _ _⟩, ⟨by rw [← HF.out]; simp⟩⟩
  case round =>
    obtain ⟨kk, f, hkk, hg, rfl, BW, SZ, HB, A⟩ := hrel
    by_cases hlt : kk < l1.length
    · have hltz : (kk : Int) < (l1.length : Int) := by omega
      obtain ⟨ad, B0, d0, B1, d1, e1, hx0, hx1, hl0, hi0, hl1, hi1⟩ := at_T53 HR.out kk (by omega) hltz
      cases e1
      replace hx0 := (BW.out.cell (World.block_lt_of_cell? w _ hx0)).trans hx0
      replace hx1 := (BW.out.cell (World.block_lt_of_cell? w _ hx1)).trans hx1
      simp only [Int.toNat_natCast] at hx0 hx1
      rw [show rd_T53 l1 (kk : Int) = l1.getD kk z53 from rfl] at hx0 hx1 hl0 hi0 hl1 hi1
      have Bq : Aside0 (l1.drop kk = l1.getD kk z53 :: l1.drop (kk + 1)) := ⟨dropD _ l1 kk hlt⟩
      have OW := Aside0.mk (OK.out.each _ (mem_getD z53 l1 kk hlt))
      generalize l1.getD kk z53 = x at *
      have HI0 := Aside0.mk hi0
      have HI1 := Aside0.mk hi1
      have hm0 : x.f0.length ≤ 9223372036854775807 := Kd.C_max hi0
      have hm1 : x.f1.length ≤ 9223372036854775807 := Kd.C_max hi1
      have hk3 : kk < 3 := by omega
      clear hi0 hi1 hl0 hl1
      obtain ⟨wo, rfl⟩ : ∃ q : World, q = wr := ⟨_, rfl⟩
      obtain ⟨go, rfl⟩ : ∃ q : Nat, q = gk := ⟨_, rfl⟩
      have OWO : Aside0 (w.heap.size < wo.heap.size) := SZ
      generalize hG1 : fsetl kk 1 f x.f0 = G1
      generalize hG2 : fsetl kk (-1) G1 x.f1 = G2
      have A2 : Aside0 (marksF G2 (kk + 1) (l1.drop (kk + 1)) = F) := ⟨by
        have h := A.out
        rw [Bq.out, marksF, hG1, hG2] at h
        exact h⟩
      have HG1 := Aside0.mk hG1
      have HG2 := Aside0.mk hG2
      clear hG1 hG2
      go_wp2
      go_loopg [24] x.f0.length (fun gg s wi => ∃ (j : Nat) (f1 : Nat → Nat → Int), j ≤ x.f0.length ∧ x.f0.length - j ≤ gg ∧ s = .int .i64 j ∧ Aside0 (Below w.heap.size w wi) ∧ Aside0 (wo.heap.size < wi.heap.size) ∧ Aside0 (wi.heap[w.heap.size]? = some (.cells (flat f1 m) 70 (0, 0))) ∧ Aside0 (wi.heap[wo.heap.size]? = some (.cells #[.slice B0 x.f0.length d0, .slice B1 x.f1.length d1] 53 (0, 0))) ∧ Aside0 (fsetl kk (1) f1 (x.f0.drop j) = G1))
      case atStart => exact ⟨0, f, Nat.zero_le _, by omega, rfl, ⟨BW.out.alloc BW.out.size _⟩, ⟨by simp⟩, ⟨blk_alloc HB.out _⟩, ⟨blk_new _ _⟩, ⟨by rw [← HG1.out]; simp⟩⟩
      case round =>
        clear BW SZ HB A Bq hx0 hx1
        obtain ⟨j, f1, hj, hgj, rfl, BWi, SZi, HBi, HXi, Ai⟩ := hrel
        by_cases hjl : j < x.f0.length
        · have hjlz : (j : Int) < (x.f0.length : Int) := by omega
          obtain ⟨ad0, e1, hcell⟩ := Kd.at_int HI0.out j (by omega) hjlz
          cases e1
          replace hcell := (BWi.out.cell (World.block_lt_of_cell? w _ hcell)).trans hcell
          rw [show rd x.f0 (j : Int) = x.f0.getD j 0 from rfl] at hcell
          simp only [Int.toNat_natCast] at hcell
          have Bj : Aside0 (x.f0.drop j = x.f0.getD j 0 :: x.f0.drop (j + 1)) := ⟨dropD _ _ j hjl⟩
          have On := OW.out.left _ (mem_getD 0 x.f0 j hjl)
          generalize x.f0.getD j 0 = n at *
          obtain ⟨nn, rfl⟩ := Int.eq_ofNat_of_zero_le On.1
          have hnm : nn < m := by have := On.2; omega
          have hst : wr.cell? ⟨w.heap.size, nn * 3 + kk, none⟩ = some (.int .i64 (f1 nn kk)) := (blk_cell HBi.out _).trans (flat_get f1 m nn kk hnm hk3)
          have hfz : wr.frozen? ⟨w.heap.size, nn * 3 + kk, none⟩ = false := blk_frozen HBi.out _
          clear On
          go_wp2
          go_roundg (x.f0.length - (j + 1))
          case measure => omega
          case rel =>
            refine ⟨j + 1, upd f1 nn kk (1), by omega, by omega, by go_num, ⟨below_set BWi.out (Nat.le_refl _)⟩, ⟨by simpa using SZi.out⟩, ⟨?_⟩, ⟨?_⟩, ⟨?_⟩⟩
            · have h := blk_set HBi.out (nn * 3 + kk) (.int .i64 (1))
              rw [flat_set f1 m nn kk (1) hnm hk3] at h
              exact h
            · exact blk_far HXi.out (p := ⟨w.heap.size, nn * 3 + kk, none⟩) (by have := OWO.out; simp; omega) _
            · have h := Ai.out
              rw [Bj.out] at h
              exact h
        · have hjlz : ¬ (j : Int) < (x.f0.length : Int) := by omega
          have hjk : x.f0.length ≤ j := by omega
          have hA1 := Ai.out
          rw [List.drop_eq_nil_of_le hjk] at hA1
          obtain rfl : f1 = G1 := hA1
          clear Ai
          have hy1 : wr.cell? ⟨wo.heap.size, 1, none⟩ = some (.slice B1 x.f1.length d1) := blk_cell HXi.out 1
          obtain ⟨wp, rfl⟩ : ∃ q : World, q = wr := ⟨_, rfl⟩
          obtain ⟨gp, rfl⟩ : ∃ q : Nat, q = gk := ⟨_, rfl⟩
          go_wp2
          go_loopg [37] x.f1.length (fun gg s wi => ∃ (j : Nat) (f2 : Nat → Nat → Int), j ≤ x.f1.length ∧ x.f1.length - j ≤ gg ∧ s = .int .i64 j ∧ Aside0 (Below w.heap.size w wi) ∧ Aside0 (wo.heap.size < wi.heap.size) ∧ Aside0 (wi.heap[w.heap.size]? = some (.cells (flat f2 m) 70 (0, 0))) ∧ Aside0 (fsetl kk (-1) f2 (x.f1.drop j) = G2))
          case atStart => exact ⟨0, f1, Nat.zero_le _, by omega, rfl, BWi, SZi, HBi, ⟨by rw [← HG2.out]; simp⟩⟩
          case round =>
            clear BWi SZi HBi HXi hy1
            obtain ⟨j, f2, hj, hgj, rfl, BWi, SZi, HBi, Ai⟩ := hrel
            by_cases hjl : j < x.f1.length
            · have hjlz : (j : Int) < (x.f1.length : Int) := by omega
              obtain ⟨ad0, e1, hcell⟩ := Kd.at_int HI1.out j (by omega) hjlz
              cases e1
              replace hcell := (BWi.out.cell (World.block_lt_of_cell? w _ hcell)).trans hcell
              rw [show rd x.f1 (j : Int) = x.f1.getD j 0 from rfl] at hcell
              simp only [Int.toNat_natCast] at hcell
              have Bj : Aside0 (x.f1.drop j = x.f1.getD j 0 :: x.f1.drop (j + 1)) := ⟨dropD _ _ j hjl⟩
              have On := OW.out.right _ (mem_getD 0 x.f1 j hjl)
              generalize x.f1.getD j 0 = n at *
              obtain ⟨nn, rfl⟩ := Int.eq_ofNat_of_zero_le On.1
              have hnm : nn < m := by have := On.2; omega
              have hst : wr.cell? ⟨w.heap.size, nn * 3 + kk, none⟩ = some (.int .i64 (f2 nn kk)) := (blk_cell HBi.out _).trans (flat_get f2 m nn kk hnm hk3)
              have hfz : wr.frozen? ⟨w.heap.size, nn * 3 + kk, none⟩ = false := blk_frozen HBi.out _
              clear On
              go_wp2
              go_roundg (x.f1.length - (j + 1))
              case measure => omega
              case rel =>
                refine ⟨j + 1, upd f2 nn kk (-1), by omega, by omega, by go_num, ⟨below_set BWi.out (Nat.le_refl _)⟩, ⟨by simpa using SZi.out⟩, ⟨?_⟩, ⟨?_⟩⟩
                · have h := blk_set HBi.out (nn * 3 + kk) (.int .i64 (-1))
                  rw [flat_set f2 m nn kk (-1) hnm hk3] at h
                  exact h
                · have h := Ai.out
                  rw [Bj.out] at h
                  exact h
            · have hjlz : ¬ (j : Int) < (x.f1.length : Int) := by omega
              have hjk : x.f1.length ≤ j := by omega
              have hA2 := Ai.out
              rw [List.drop_eq_nil_of_le hjk] at hA2
              obtain rfl : f2 = G2 := hA2
              clear Ai
              go_wp2
              go_roundg (l1.length - (kk + 1))
              case measure => omega
              case rel =>
                exact ⟨kk + 1, f2, by omega, by omega, by go_num, BWi, ⟨by have h1 := SZi.out; have h2 := OWO.out; omega⟩, HBi, A2⟩
    · have hltz : ¬ (kk : Int) < (l1.length : Int) := by omega
      have hkl : l1.length ≤ kk := by omega
      go_wp2
      go_ret
      refine ⟨_, rfl, ?_, BW.out⟩
      have hA := A.out
      rw [List.drop_eq_nil_of_le hkl] at hA
      obtain rfl : f = F := hA
      exact flat_R f m w.heap.size HB.out (Nat.le_refl _) (by omega)
end Go.Proofs.Ytdbeochifofdoaa.X
end

section
namespace Go.Proofs.Ytdbeochifofdoaa.X
open Go.RowKit Go.Proofs.YtdbeochifofdoaaW.PrintWords Go.Proofs.YtdbeochifofdoaaW.PrintLast Go.Proofs.YtdbeochifofdoaaW.PrintMore

/-- slices.Clone of a slice of numbers, short enough for the machine. -/
def slices_Clone_int_int.f (l0 : List Int) : Option (List Int) := if l0.length ≤ 17592186044416 then some l0 else none
set_option maxHeartbeats 1000000 in
set_option maxRecDepth 100000 in
theorem slices_Clone_int_int.calls (A0 : Option Addr) (c0 : Nat) (l0 : List Int) (r : List Int) (w : World) (hr0 : Kd.C (Kd.int .i64) w A0 l0.length l0) (hc0 : l0.length ≤ c0) (h : slices_Clone_int_int.f l0 = some r) :
    Calls Try.prog 91 #[.slice A0 l0.length c0] w fun e w' => ∃ v0_ : Value, e = .returned (v0_) ∧ Kd.R (Kd.int .i64) 3 w' w.heap.size (fun _ => True) v0_ r ∧ Below w.heap.size w w' := by
  unfold slices_Clone_int_int.f at h
  by_cases hl : l0.length ≤ 17592186044416
  · rw [if_pos hl] at h
    obtain rfl := Option.some.inj h
    have HL := Aside0.mk hl
    have HR := Aside0.mk hr0
    clear hl h hr0
    have hnil := fun (W : World) => Lib.run_eql_slice_nil (P := Try.prog) W 43 3 A0 l0.length c0 0 0 Try.underlying43
    rcases A0 with _ | ad
    · have h0 : l0 = [] := by
        have h1 := HR.out.2.2
        rcases Nat.eq_zero_or_pos l0.length with e | e
        · exact List.eq_nil_of_length_eq_zero e
        · obtain ⟨ad, e2, _⟩ := h1 e
          cases e2
      subst h0
      clear HR hnil
      have hnil := fun (W : World) => Lib.run_eql_slice_nil (P := Try.prog) W 43 3 none 0 c0 0 0 Try.underlying43
      show Calls Try.prog 91 #[.slice none 0 c0] w _
      go_enter Try.func91, Try.ntmps91
      go_wp2
      go_ret
      exact ⟨_, rfl, Kd.R_nil _ _ _ _ _, Below.refl _ _⟩
    · go_enter Try.func91, Try.ntmps91
      go_wp2_with (first | (at_builtin; refine Kd.R_append_row (Value.int .i64) (0 : Int) (h1 := fun _ => rfl) (w0 := w) w.heap.size rfl (.tmp 5) (.tmp 6) 43 3 (.int .i64 0) 8 rfl Try.underlying43 info3 rfl (by decide) (.slice (some ⟨w.heap.size, 0, none⟩) 0 0) [] l0 (some ad) l0.length c0 (fun _ => True) rfl rfl (fun _ _ => trivial) ?aO ?aR ?aB ?aS ?aL ?_))
      case aO => exact Kd.R_of_own (xs := ([] : List Int)) (own_lit w w.heap.size 3 .i64 [] (Nat.le_refl _) (by simp)) (fun _ _ => trivial)
      case aR => exact Kd.C_alloc HR.out _
      case aB => exact (Below.refl _ _).alloc (Nat.le_refl _) _
      case aS => simp
      case aL => have := HL.out; simp; omega
      intro v1 w1 hO hB _ _
      have HO := Aside0.mk hO
      have HB := Aside0.mk hB
      clear hO hB
      go_wp2
      go_ret
      exact ⟨_, rfl, HO.out, HB.out⟩
  · rw [if_neg hl] at h
    cases h
end Go.Proofs.Ytdbeochifofdoaa.X
end

section
/-! The function literals that the program hands to the library: what each answers. -/
namespace Go.Proofs.Ytdbeochifofdoaa.X
open Go.RowKit Go.Proofs.YtdbeochifofdoaaW.PrintWords Go.Proofs.YtdbeochifofdoaaW.PrintLast Go.Proofs.YtdbeochifofdoaaW.PrintMore
set_option linter.unusedVariables false
set_option linter.unusedSimpArgs false

set_option maxHeartbeats 1000000 in
theorem lit98 (x : Int) (B : Nat) (A1 : Option Addr) (c1 : Nat) (l1 : List Int) (W : World) (hc : W.cell? ⟨B, 1, none⟩ = some (.slice A1 l1.length c1)) (hR : (Kd.int .i64).C W A1 l1.length l1) (hl : l1.length ≤ c1) :
    Calls Try.prog 98 #[.int .i64 x, .pointer (some ⟨B, 0, none⟩)] W fun e w' => e = .returned (.bool (l1.contains x)) ∧ Below W.heap.size W w' := by
  have HF := Aside0.mk (contains_f l1 x (Kd.C_max hR))
  generalize l1.contains x = b at *
  have HR := Aside0.mk hR
  have HL := Aside0.mk hl
  clear hR hl
  go_enter Try.func98, Try.ntmps98
  go_wp2_with (go_at_call 99; refine (slices_Contains_int_int.calls _ A1 c1 l1 x b _ HR.out HL.out HF.out).mono ?_; rintro e w' ⟨rfl, ⟨nd, rfl⟩⟩)
  go_ret
  exact ⟨rfl, pw_below_drewN (Below.refl _ _) _⟩

set_option maxHeartbeats 1000000 in
theorem lit113 (x m : Int) (B : Nat) (W : World) (hc : W.cell? ⟨B, 0, none⟩ = some (.int .i64 m)) :
    Calls Try.prog 113 #[.int .i64 x, .pointer (some ⟨B, 0, none⟩)] W fun e w' => e = .returned (.bool (!(decide (wrap64 (-m) ≤ x) && decide (x ≤ m)))) ∧ Below W.heap.size W w' := by
  have HF := Aside0.mk (within_f x (wrap64 (-m)) m)
  generalize hb : (decide (wrap64 (-m) ≤ x) && decide (x ≤ m)) = b at *
  clear hb
  go_enter Try.func113, Try.ntmps113
  go_wp2_with (go_at_call 85; refine (weigh_within.calls x (wrap64 (-m)) m b _ HF.out).mono ?_; rintro e w' ⟨rfl, ⟨nd, rfl⟩⟩)
  go_ret
  exact ⟨rfl, pw_below_drewN (Below.refl _ _) _⟩

end Go.Proofs.Ytdbeochifofdoaa.X
end

section
namespace Go.Proofs.Ytdbeochifofdoaa.X
open Go.RowKit Go.Proofs.YtdbeochifofdoaaW.PrintWords Go.Proofs.YtdbeochifofdoaaW.PrintLast Go.Proofs.YtdbeochifofdoaaW.PrintMore

/-- The number of the first element of which p holds, counted from i on; -1 if there is none. -/
def ixf {α : Type} (p : α → Bool) : List α → Int → Int
  | [], _ => -1
  | x :: xs, i => if p x then i else ixf p xs (i + 1)
theorem ixf_any {α : Type} (p : α → Bool) (l : List α) : ∀ i : Int, 0 ≤ i → decide (0 ≤ ixf p l i) = l.any p := by
  induction l with
  | nil => intro i _; simp [ixf]
  | cons x xs ih =>
    intro i hi
    unfold ixf
    cases h : p x with
    | true => simp [h, hi]
    | false => simp [h]; have := ih (i + 1) (by omega); simpa using this
theorem drop_getD {α : Type} (d : α) (l : List α) (k : Nat) (h : k < l.length) : l.drop k = l.getD k d :: l.drop (k + 1) := by
  rw [List.drop_eq_getElem_cons h]
  simp [List.getD_eq_getElem?_getD, List.getElem?_eq_getElem h]

set_option maxHeartbeats 2000000 in
set_option maxRecDepth 100000 in
theorem indexFunc117 (g : Nat) (lb : Array Value) (eg : ∀ args w, (callFunc g args).run Try.prog w = .ok (.enter g args) w) (p : Int → Bool) (A0 : Option Addr) (c0 : Nat) (l0 : List (Int)) (w : World)
    (hr0 : Kd.C (Kd.int .i64) w A0 l0.length l0) (hp : ∀ (W : World) (x : Int), x ∈ l0 → Below w.heap.size w W → Calls Try.prog g (#[.int .i64 x] ++ lb) W fun e w' => e = .returned (.bool (p x)) ∧ Below W.heap.size W w') :
    Calls Try.prog 117 #[.slice A0 l0.length c0, .func (.func g) #[] lb] w fun e w' => e = .returned (.int .i64 (ixf p l0 0)) ∧ Below w.heap.size w w' := by
  have HR := Aside0.mk hr0
  have HP := Aside0.mk hp
  have HM := Aside0.mk (Kd.C_max hr0)
  clear hr0 hp
  have hlen : l0.length ≤ 9223372036854775807 := HM.out
  go_enter Try.func117, Try.ntmps117
  go_wp2
  go_loopg [5, 8] l0.length (fun gg _ s8 wr => ∃ kk : Nat, kk ≤ l0.length ∧ l0.length - kk ≤ gg ∧ s8 = .int .i64 kk ∧ Aside0 (Below w.heap.size w wr) ∧ Aside0 (ixf p (l0.drop kk) kk = ixf p l0 0))
  case atStart => exact ⟨0, Nat.zero_le _, by omega, rfl, ⟨Below.refl _ w⟩, ⟨by simp⟩⟩
  case round =>
    obtain ⟨kk, hkk, hg, rfl, BW, A⟩ := hrel
    by_cases hlt : kk < l0.length
    · have hltz : (kk : Int) < (l0.length : Int) := by omega
      obtain ⟨ad, e1, hcell⟩ := Kd.at_int HR.out kk (by omega) hltz
      cases e1
      have hmem : rd l0 kk ∈ l0 := by simp [rd, List.getD_eq_getElem?_getD, List.getElem?_eq_getElem hlt]
      have hcall := HP.out wr (rd l0 kk) hmem BW.out
      rw [show rd l0 (kk : Int) = l0.getD kk 0 from rfl] at hcall hcell
      replace hcell := (BW.out.cell (World.block_lt_of_cell? w _ hcell)).trans hcell
      simp only [Int.toNat_natCast] at hcell
      clear hmem
      generalize hy : (l0.getD kk 0) = y at *
      have B : Aside0 (l0.drop kk = y :: l0.drop (kk + 1)) := ⟨by rw [← hy]; exact drop_getD _ l0 kk hlt⟩
      clear hy
      cases hq : p y with
      | true =>
        rw [hq] at hcall
        have Q := Aside0.mk hq
        clear hq
        go_wp2_with (go_at_fn g; refine hcall.mono ?_; rintro e w' ⟨rfl, hb'⟩)
        go_ret
        refine ⟨?_, BW.out.trans (hb'.mono BW.out.size)⟩
        rw [← A.out, B.out, ixf, if_pos Q.out]
        rfl
      | false =>
        rw [hq] at hcall
        have Q := Aside0.mk hq
        clear hq
        go_wp2_with (go_at_fn g; refine hcall.mono ?_; rintro e w' ⟨rfl, hb'⟩)
        go_roundg (l0.length - (kk + 1))
        case measure => omega
        case rel =>
          refine ⟨kk + 1, by omega, by omega, by go_num, ⟨BW.out.trans (hb'.mono BW.out.size)⟩, ⟨?_⟩⟩
          rw [← A.out, B.out, ixf, if_neg (by rw [Q.out]; simp)]
          rfl
    · have hltz : ¬ (kk : Int) < (l0.length : Int) := by omega
      have hkl : l0.length ≤ kk := by omega
      go_wp2
      go_ret
      refine ⟨?_, BW.out⟩
      rw [← A.out, List.drop_eq_nil_of_le hkl]
      rfl
set_option maxHeartbeats 1000000 in
theorem containsFunc97 (g : Nat) (lb : Array Value) (eg : ∀ args w, (callFunc g args).run Try.prog w = .ok (.enter g args) w) (p : Int → Bool) (A0 : Option Addr) (c0 : Nat) (l0 : List (Int)) (w : World)
    (hr0 : Kd.C (Kd.int .i64) w A0 l0.length l0) (hp : ∀ (W : World) (x : Int), x ∈ l0 → Below w.heap.size w W → Calls Try.prog g (#[.int .i64 x] ++ lb) W fun e w' => e = .returned (.bool (p x)) ∧ Below W.heap.size W w') :
    Calls Try.prog 97 #[.slice A0 l0.length c0, .func (.func g) #[] lb] w fun e w' => e = .returned (.bool (l0.any p)) ∧ Below w.heap.size w w' := by
  rw [← ixf_any p l0 0 (by omega)]
  have HR := Aside0.mk hr0
  have HP := Aside0.mk hp
  clear hr0 hp
  go_enter Try.func97, Try.ntmps97
  go_wp2_with (go_at_call 117; refine (indexFunc117 g lb eg p A0 c0 l0 _ HR.out HP.out).mono ?_; rintro e w' ⟨rfl, hb'⟩)
  go_ret
  exact ⟨rfl, hb'⟩
end Go.Proofs.Ytdbeochifofdoaa.X
end

section
/-! weigh.Validate. -/
namespace Go.Proofs.Ytdbeochifofdoaa.X
open Go.RowKit Go.Proofs.YtdbeochifofdoaaW.PrintWords Go.Proofs.YtdbeochifofdoaaW.PrintLast Go.Proofs.YtdbeochifofdoaaW.PrintMore
set_option linter.unusedVariables false
set_option linter.unusedSimpArgs false

def weigh_Validate.f (a0 : Int) (l1 : List S53) : Option Int := some (pErr a0 l1)

theorem eg98 (args : Array Value) (w : World) : (callFunc 98 args).run Try.prog w = .ok (.enter 98 args) w := enters_of Try.func98 (by kernel_rfl) rfl args w

set_option maxHeartbeats 4000000 in
set_option maxRecDepth 100000 in
theorem weigh_Validate.calls (a0 : Int) (A1 : Option Addr) (c1 : Nat) (l1 : List S53) (r : Int) (w : World) (hr1 : Kd.C k53 w A1 l1.length l1) (hc1 : l1.length ≤ c1) (h : weigh_Validate.f a0 l1 = some r) :
    Calls Try.prog 58 #[.int .i64 a0, .slice A1 l1.length c1] w fun e w' => e = .returned (.int .i64 r) ∧ Below w.heap.size w w' := by
  obtain rfl := Option.some.inj h
  have HR := Aside0.mk hr1
  have HM := Aside0.mk (Kd.C_max hr1)
  have HF := Aside0.mk (within_f a0 1 13)
  clear h hr1 hc1
  have hlen : l1.length ≤ 9223372036854775807 := HM.out
  by_cases hlo : 1 ≤ a0 ∧ a0 ≤ 13
  rotate_left
  · have e1 : (decide (1 ≤ a0) && decide (a0 ≤ 13)) = false := by simp; omega
    rw [e1] at HF
    have e2 : pErr a0 l1 = 1 := by unfold pErr; rw [if_neg hlo]
    rw [e2]
    clear e1 e2 hlo
    go_enter Try.func58, Try.ntmps58
    go_wp2_with (go_at_call 85; refine (weigh_within.calls a0 1 13 false _ HF.out).mono ?_; rintro e w' ⟨rfl, ⟨nd, rfl⟩⟩)
    go_ret
    exact ⟨rfl, pw_below_drewN (Below.refl _ _) _⟩
  have e1 : (decide (1 ≤ a0) && decide (a0 ≤ 13)) = true := by simp [hlo.1, hlo.2]
  rw [e1] at HF
  clear e1
  by_cases h3 : 3 < l1.length
  · have e2 : pErr a0 l1 = 3 := by unfold pErr; rw [if_pos hlo, if_pos h3]
    rw [e2]
    clear e2 hlo
    go_enter Try.func58, Try.ntmps58
    go_wp2_with (go_at_call 85; refine (weigh_within.calls a0 1 13 true _ HF.out).mono ?_; rintro e w' ⟨rfl, ⟨nd, rfl⟩⟩)
    go_ret
    exact ⟨rfl, pw_below_drewN (Below.refl _ _) _⟩
  have e2 : pErr a0 l1 = vErr a0 l1 := by unfold pErr; rw [if_pos hlo, if_neg h3]
  rw [e2]
  clear e2
  have HLO := Aside0.mk hlo
  clear hlo
  have h3b : decide (3 < (l1.length : Int)) = false := decide_eq_false (by omega)
  go_enter Try.func58, Try.ntmps58
  go_wp2_with (go_at_call 85; refine (weigh_within.calls a0 1 13 true _ HF.out).mono ?_; rintro e w' ⟨rfl, ⟨nd, rfl⟩⟩)
  go_loopg [15] l1.length (fun gg s15 wr => ∃ kk : Nat, kk ≤ l1.length ∧ l1.length - kk ≤ gg ∧ s15 = .int .i64 kk ∧ Aside0 (Below w.heap.size w wr) ∧ Aside0 (vErr a0 (l1.drop kk) = vErr a0 l1))
  case atStart => exact ⟨0, Nat.zero_le _, by omega, rfl, ⟨pw_below_drewN (Below.refl _ _) _⟩, ⟨by simp⟩⟩
  case round =>
    obtain ⟨kk, hkk, hg, rfl, BW, A⟩ := hrel
    by_cases hlt : kk < l1.length
    · have hltz : (kk : Int) < (l1.length : Int) := by omega
      obtain ⟨ad, B0, d0, B1, d1, e1, hx0, hx1, hl0, hi0, hl1, hi1⟩ := at_T53 HR.out kk (by omega) hltz
      cases e1
      replace hx0 := (BW.out.cell (World.block_lt_of_cell? w _ hx0)).trans hx0
      replace hx1 := (BW.out.cell (World.block_lt_of_cell? w _ hx1)).trans hx1
      replace hi0 := Kd.C_below hi0 BW.out
      replace hi1 := Kd.C_below hi1 BW.out
      simp only [Int.toNat_natCast] at hx0 hx1
      rw [show rd_T53 l1 (kk : Int) = l1.getD kk z53 from rfl] at hx0 hx1 hl0 hi0 hl1 hi1
      have Bq : Aside0 (l1.drop kk = l1.getD kk z53 :: l1.drop (kk + 1)) := ⟨dropD _ l1 kk hlt⟩
      generalize l1.getD kk z53 = x at *
      have HS0 := Aside0.mk (isSet_f a0 HLO.out x.f0 (Kd.C_max hi0))
      have HS1 := Aside0.mk (isSet_f a0 HLO.out x.f1 (Kd.C_max hi1))
      have HI0 := Aside0.mk hi0
      have HI1 := Aside0.mk hi1
      have HL0 := Aside0.mk hl0
      have HL1 := Aside0.mk hl1
      have hm0 : x.f0.length ≤ 9223372036854775807 := Kd.C_max hi0
      have hm1 : x.f1.length ≤ 9223372036854775807 := Kd.C_max hi1
      clear hi0 hi1 hl0 hl1
      have fin : ∀ n : Int, n ≠ 0 → wErr a0 x = n → n = vErr a0 l1 := by
        intro n hn hw
        rw [← A.out, Bq.out, vErr, if_neg (by omega), hw]
      have FIN := Aside0.mk fin
      clear fin
      cases hb0 : isSetB a0 x.f0 with
      | false =>
        rw [hb0] at HS0
        have Q0 := Aside0.mk hb0
        clear hb0
        go_wp2_with fail
        refine (weigh_isSet.calls _ B0 d0 x.f0 a0 false _ (Kd.C_alloc HI0.out _) HL0.out HS0.out).mono ?_; rintro e w' ⟨rfl, ⟨nd1, rfl⟩⟩
        go_wp2
        go_ret
        refine ⟨?_, ?_⟩
        · rw [← FIN.out 1 (by omega) (by unfold wErr; rw [Q0.out]; rfl)]; rfl
        · exact pw_below_drewN (BW.out.alloc BW.out.size _) _
      | true =>
        rw [hb0] at HS0
        have Q0 := Aside0.mk hb0
        clear hb0
        cases hb1 : isSetB a0 x.f1 with
        | false =>
          rw [hb1] at HS1
          have Q1 := Aside0.mk hb1
          clear hb1
          go_wp2_with fail
          refine (weigh_isSet.calls _ B0 d0 x.f0 a0 true _ (Kd.C_alloc HI0.out _) HL0.out HS0.out).mono ?_; rintro e w' ⟨rfl, ⟨nd1, rfl⟩⟩
          go_wp2_with fail
          refine (weigh_isSet.calls _ B1 d1 x.f1 a0 false _ (Kd.C_drewN (Kd.C_alloc HI1.out _) _) HL1.out HS1.out).mono ?_; rintro e w' ⟨rfl, ⟨nd2, rfl⟩⟩
          go_wp2
          go_ret
          refine ⟨?_, ?_⟩
          · rw [← FIN.out 1 (by omega) (by unfold wErr; rw [Q0.out, Q1.out]; rfl)]; rfl
          · repeat (first | exact BW.out | (with_reducible apply pw_below_drewN) | (with_reducible refine Below.alloc ?_ BW.out.size _))
        | true =>
          rw [hb1] at HS1
          have Q1 := Aside0.mk hb1
          clear hb1
          go_wp2_with fail
          refine (weigh_isSet.calls _ B0 d0 x.f0 a0 true _ (Kd.C_alloc HI0.out _) HL0.out HS0.out).mono ?_; rintro e w' ⟨rfl, ⟨nd1, rfl⟩⟩
          go_wp2_with fail
          refine (weigh_isSet.calls _ B1 d1 x.f1 a0 true _ (Kd.C_drewN (Kd.C_alloc HI1.out _) _) HL1.out HS1.out).mono ?_; rintro e w' ⟨rfl, ⟨nd2, rfl⟩⟩
          go_wp2_with fail
          refine (containsFunc97 98 #[.pointer (some ⟨wr.heap.size, 0, none⟩)] eg98 (fun n => x.f1.contains n) B0 d0 x.f0 _ ?hr ?hp).mono ?_
          case hr => repeat (first | exact HI0.out | (with_reducible apply Kd.C_drewN) | (with_reducible apply Kd.C_alloc))
          case hp =>
            intro W n _ hb
            refine lit98 n wr.heap.size B1 d1 x.f1 W ?_ ?_ HL1.out
            · exact (hb.cell (p := ⟨wr.heap.size, 1, none⟩) (by simp)).trans (by first | exact blk_cell (blk_drewN (blk_new wr _) _) 1 | exact blk_cell (blk_drewN (blk_drewN (blk_new wr _) _) _) 1)
            · refine Kd.C_below ?_ hb
              repeat (first | exact HI1.out | (with_reducible apply Kd.C_drewN) | (with_reducible apply Kd.C_alloc))
          rintro e w' ⟨rfl, hb'⟩
          have HB' := Aside0.mk (show Below w.heap.size w w' from ?hbb)
          case hbb =>
            refine Below.trans ?_ (hb'.mono ?_)
            · repeat (first | exact BW.out | (with_reducible apply pw_below_drewN) | (with_reducible refine Below.alloc ?_ BW.out.size _))
            · have := BW.out.size; simp; omega
          have hbc0 := hb'.cell (p := ⟨wr.heap.size, 0, none⟩) (by simp)
          have hbc1 := hb'.cell (p := ⟨wr.heap.size, 1, none⟩) (by simp)
          have hc0 : w'.cell? ⟨wr.heap.size, 0, none⟩ = some (.slice B0 x.f0.length d0) := hbc0.trans (by first | exact blk_cell (blk_drewN (blk_new wr _) _) 0 | exact blk_cell (blk_drewN (blk_drewN (blk_new wr _) _) _) 0)
          have hc1 : w'.cell? ⟨wr.heap.size, 1, none⟩ = some (.slice B1 x.f1.length d1) := hbc1.trans (by first | exact blk_cell (blk_drewN (blk_new wr _) _) 1 | exact blk_cell (blk_drewN (blk_drewN (blk_new wr _) _) _) 1)
          clear hbc0 hbc1 hb'
          cases hany : x.f0.any (fun n => x.f1.contains n) with
          | true =>
            have QA := Aside0.mk hany
            clear hany
            go_wp2
            go_ret
            refine ⟨?_, HB'.out⟩
            rw [← FIN.out 6 (by omega) (by unfold wErr; rw [Q0.out, Q1.out, QA.out]; rfl)]; rfl
          | false =>
            have QA := Aside0.mk hany
            clear hany
            by_cases hle : x.f0.length = x.f1.length
            · have hq : ((x.f0.length : Int) != (x.f1.length : Int)) = false := by simp [hle]
              have HLE := Aside0.mk hle
              clear hle
              go_wp2
              go_roundg (l1.length - (kk + 1))
              case measure => omega
              case rel =>
                refine ⟨kk + 1, by omega, by omega, by go_num, HB', ⟨?_⟩⟩
                rw [← A.out, Bq.out, vErr, if_pos]
                unfold wErr
                rw [Q0.out, Q1.out, QA.out, if_pos HLE.out]
                rfl
            · have hq : ((x.f0.length : Int) != (x.f1.length : Int)) = true := by simp; omega
              have HLE := Aside0.mk hle
              clear hle
              go_wp2
              go_ret
              refine ⟨?_, HB'.out⟩
              rw [← FIN.out 5 (by omega) (by unfold wErr; rw [Q0.out, Q1.out, QA.out, if_neg HLE.out]; rfl)]; rfl
    · have hltz : ¬ (kk : Int) < (l1.length : Int) := by omega
      have hkl : l1.length ≤ kk := by omega
      go_wp2
      go_ret
      refine ⟨?_, BW.out⟩
      rw [← A.out, List.drop_eq_nil_of_le hkl]
      rfl
end Go.Proofs.Ytdbeochifofdoaa.X
end

section
/-! weigh.Marks. -/
namespace Go.Proofs.Ytdbeochifofdoaa.X
open Go.RowKit Go.Proofs.YtdbeochifofdoaaW.PrintWords Go.Proofs.YtdbeochifofdoaaW.PrintLast Go.Proofs.YtdbeochifofdoaaW.PrintMore
set_option linter.unusedVariables false
set_option linter.unusedSimpArgs false

/-- The first n numbers of a mark. -/
def cut3 (n : Nat) (m : S70) : List Int := [m.f0, m.f1, m.f2].take n
def weigh_Marks.f (a0 : Int) (l1 : List S53) : Option (List (List Int) × Int) := if pErr a0 l1 = 0 then some ((marksL a0 l1).map (cut3 l1.length), 0) else some ([], pErr a0 l1)

/-- The first numbers of a block of numbers, as a slice that is read. -/
theorem C_block {w : World} {g t : Nat} {l : List Int} (h : w.heap[g]? = some (.cells (nums .i64 l).toArray t (0, 0))) (n : Nat) (hn : n ≤ l.length) (hm : l.length ≤ 1000) : (Kd.int .i64).C w (some ⟨g, 0, none⟩) n (l.take n) := by
  refine Kd.C_of_reads (d := (0 : Int)) ⟨by simp; omega, by omega, fun _ => ⟨_, rfl, fun j hj => ?_⟩⟩
  rw [add_plain, blk_cell h]
  have hjl : j < l.length := by omega
  simp [nums, hjl, List.getElem?_take, hj]

/-- The first n cells of a mark in memory, as a slice. -/
theorem slice70 (W : World) (B n : Nat) (hn : n ≤ 3) : (Instr.sliceAt 70 (.pointer (some ⟨B, 0, none⟩)) none (some (.int .i64 (n : Int))) none).run Try.prog W = .ok (.slice (some ⟨B, 0, none⟩) n 3) W := by
  have h := run_sliceAt_array_h (P := Try.prog) W 70 ⟨B, 0, none⟩ (by kernel_rfl) .i64 (n : Int) (by omega) (by rw [show Try.prog.arrayLen 70 = 3 from by kernel_rfl]; omega)
  rw [h, show Try.prog.elem 70 = 3 from by kernel_rfl, show Try.prog.arrayLen 70 = 3 from by kernel_rfl]
  have hs : (sizeOf 3).run Try.prog W = .ok 1 W := by kernel_rfl
  rw [hs]
  simp [Result.andThen, slicedAt, add_plain]

set_option maxHeartbeats 4000000 in
set_option maxRecDepth 100000 in
theorem weigh_Marks.calls (a0 : Int) (A1 : Option Addr) (c1 : Nat) (l1 : List S53) (r1 : List (List Int)) (r2 : Int) (w : World) (hr1 : Kd.C k53 w A1 l1.length l1) (hc1 : l1.length ≤ c1) (h : weigh_Marks.f a0 l1 = some (r1, r2)) :
    Calls Try.prog 51 #[.int .i64 a0, .slice A1 l1.length c1] w fun e w' => ∃ v0_ : Value, e = .returned (.tuple #[v0_, .int .i64 r2]) ∧ Kd.N (Kd.slice 3 (Kd.int .i64)) 43 w' w.heap.size (fun k_ => w.heap.size ≤ k_) v0_ r1 ∧ Below w.heap.size w w' := by
  have HR := Aside0.mk hr1
  have HC := Aside0.mk hc1
  unfold weigh_Marks.f at h
  by_cases hp : pErr a0 l1 = 0
  rotate_left
  · rw [if_neg hp] at h
    simp only [Option.some.injEq, Prod.mk.injEq] at h
    obtain ⟨rfl, h2⟩ := h
    have HF := Aside0.mk (show weigh_Validate.f a0 l1 = some r2 by rw [← h2]; rfl)
    have q1 : (r2 != 0) = true := by rw [← h2]; simpa using hp
    clear h2 hp hr1 hc1
    go_enter Try.func51, Try.ntmps51
    go_wp2_with fail
    refine (weigh_Validate.calls a0 A1 c1 l1 r2 _ HR.out HC.out HF.out).mono ?_
    rintro e w' ⟨rfl, hb⟩
    have HB := Aside0.mk hb
    clear hb
    go_wp2
    go_ret2
    exact ⟨_, rfl, Kd.N_nil _ _ _ _ _, HB.out⟩
  rw [if_pos hp] at h
  simp only [Option.some.injEq, Prod.mk.injEq] at h
  obtain ⟨rfl, rfl⟩ := h
  have OK := Aside0.mk (pErr_ok hp)
  have HF := Aside0.mk (show weigh_Validate.f a0 l1 = some 0 by unfold weigh_Validate.f; rw [hp])
  have HMF := Aside0.mk (show weigh_marks.f a0 l1 = some (marksL a0 l1) by unfold weigh_marks.f; rw [if_pos hp])
  have hl3 : l1.length ≤ 3 := OK.out.few
  have hlen : (marksL a0 l1).length ≤ 13 := by simp [marksL, rowsOf]; have := OK.out.hi; omega
  generalize hL : marksL a0 l1 = L at *
  clear hp hr1 hc1 hL
  go_enter Try.func51, Try.ntmps51
  go_wp2_with fail
  refine (weigh_Validate.calls a0 A1 c1 l1 0 _ HR.out HC.out HF.out).mono ?_
  rintro e w1 ⟨rfl, hb1⟩
  have HB1 := Aside0.mk hb1
  clear hb1
  go_wp2_with fail
  refine (weigh_marks.calls a0 A1 c1 l1 L _ (Kd.C_below HR.out HB1.out) HC.out HMF.out).mono ?_
  rintro e w2 ⟨v, rfl, hO, hb⟩
  obtain ⟨A, c, rfl⟩ := Kd.R_slice hO
  obtain ⟨_, hLc, hC⟩ := Kd.R_reads' hO
  have HB2 := Aside0.mk (HB1.out.trans (hb.mono HB1.out.size))
  have HL := Aside0.mk hC
  clear hO hC hb HB1
  go_wp2
  go_loopg [7, 20] L.length (fun gg v7 s wr => ∃ (i : Nat) (xs : List (List Int)), i ≤ L.length ∧ L.length - i ≤ gg ∧ s = .int .i64 i ∧ Aside0 (Below w2.heap.size w2 wr) ∧ Aside0 (Kd.N (Kd.slice 3 (Kd.int .i64)) 43 wr w2.heap.size (fun k_ => w2.heap.size ≤ k_) v7 xs) ∧ Aside0 (xs = (L.take i).map (cut3 l1.length)))
  case atStart => exact ⟨0, [], Nat.zero_le _, by omega, rfl, ⟨Below.refl _ _⟩, ⟨Kd.N_nil _ _ _ _ _⟩, ⟨by simp⟩⟩
  case round =>
    obtain ⟨i, xs, hi, hg, rfl, BR, HO, AX⟩ := hrel
    by_cases hil : i < L.length
    · have hilz : (i : Int) < (L.length : Int) := by omega
      obtain ⟨ad, e1, hx0, hx1, hx2⟩ := at_T70 HL.out i (by omega) hilz
      cases e1
      replace hx0 := (BR.out.cell (World.block_lt_of_cell? w2 _ hx0)).trans hx0
      replace hx1 := (BR.out.cell (World.block_lt_of_cell? w2 _ hx1)).trans hx1
      replace hx2 := (BR.out.cell (World.block_lt_of_cell? w2 _ hx2)).trans hx2
      simp only [Int.toNat_natCast] at hx0 hx1 hx2
      rw [show rd_T70 L (i : Int) = L.getD i z70 from rfl] at hx0 hx1 hx2
      have Bi : Aside0 (L.take (i + 1) = L.take i ++ [L.getD i z70]) := ⟨by rw [List.take_succ_eq_append_getElem hil]; simp [List.getD_eq_getElem?_getD, List.getElem?_eq_getElem hil]⟩
      generalize L.getD i z70 = m at *
      have hsl := fun (W : World) (B : Nat) => slice70 W B l1.length hl3
      have KC := fun (W : World) (hK : W.heap[wr.heap.size]? = some (.cells #[.int .i64 m.f0, .int .i64 m.f1, .int .i64 m.f2] 70 (0, 0))) => C_block (l := [m.f0, m.f1, m.f2]) hK l1.length hl3 (by simp)
      have CF := Aside0.mk (show slices_Clone_int_int.f (cut3 l1.length m) = some (cut3 l1.length m) by unfold slices_Clone_int_int.f; rw [if_pos]; simp [cut3]; omega)
      have CL : (cut3 l1.length m).length = l1.length := by simp [cut3]; omega
      have KC' := Aside0.mk KC
      have CL' := Aside0.mk CL
      clear KC CL
      obtain ⟨Av, cv, rfl⟩ := Kd.N_slice HO.out
      go_wp2_with fail
      have hcall := slices_Clone_int_int.calls (some ⟨wr.heap.size, 0, none⟩) 3 (cut3 l1.length m) (cut3 l1.length m) (wr.alloc (.cells #[.int .i64 m.f0, .int .i64 m.f1, .int .i64 m.f2] 70)) (by rw [CL'.out]; exact KC'.out _ (blk_new _ _)) (by rw [CL'.out]; exact hl3) CF.out
      rw [CL'.out] at hcall
      refine hcall.mono ?_
      rintro e w' ⟨vc, rfl, hO1, hb1⟩
      obtain ⟨Ac, cc, rfl⟩ := Kd.R_slice hO1
      rw [show (wr.alloc (.cells #[.int .i64 m.f0, .int .i64 m.f1, .int .i64 m.f2] 70)).heap.size = wr.heap.size + 1 from by simp] at hO1 hb1
      have HO1 := Aside0.mk hO1
      have HB1 := Aside0.mk ((below_alloc (Below.refl _ wr) (.cells #[.int .i64 m.f0, .int .i64 m.f1, .int .i64 m.f2] 70)).trans (hb1.mono (by omega)))
      clear hO1 hb1 hcall
      have hxl : xs.length ≤ 13 := by rw [AX.out]; simp; omega
      go_wp2_with (first | (at_builtin; refine Kd.N_append (Kd.slice 3 (Kd.int .i64)) (w0 := w2) w2.heap.size rfl (.tmp 24) (.tmp 29) 47 43 (.slice none 0 0) 24 rfl Try.underlying47 info43 rfl (by decide) (by omega) (.slice Av xs.length cv) xs (cut3 l1.length m) [.slice Ac (cut3 l1.length m).length cc] (fun k_ => w2.heap.size ≤ k_) (fun k_ => some k_ = (.slice Ac (cut3 l1.length m).length cc : Value).ownBlock) rfl rfl ?aP ?aK ?aF ?aO ?aB ?aS ?aL ?_))
      case aP => exact Kd.FK_of_M (Kd.M_row (Kd.R_tight rfl HO1.out))
      case aK =>
        intro k hk
        have h1 := Kd.R_base HO1.out k hk.symm
        refine ⟨by have := BR.out.size; omega, fun he => ?_⟩
        have h2 := Kd.N_lt HO.out k he.symm
        omega
      case aF => intro k hk; have h1 := BR.out.size; have h2 := HB1.out.size; omega
      case aO => exact Kd.N_below HO.out HB1.out
      case aB => exact BR.out.trans (HB1.out.mono BR.out.size)
      case aS => have h1 := BR.out.size; have h2 := HB1.out.size; omega
      case aL => omega
      intro v1 w3 hN hB3 _ _
      have HN := Aside0.mk hN
      have HB3 := Aside0.mk hB3
      clear hN hB3
      go_wp2
      go_roundg (L.length - (i + 1))
      case measure => omega
      case rel =>
        refine ⟨i + 1, _, by omega, by omega, by go_num, HB3, HN, ⟨?_⟩⟩
        rw [Bi.out, List.map_append, ← AX.out]
        rfl
    · have hilz : ¬ (i : Int) < (L.length : Int) := by omega
      have hil' : L.length ≤ i := by omega
      go_wp2
      go_ret2
      refine ⟨_, rfl, ?_, HB2.out.trans (BR.out.mono HB2.out.size)⟩
      have h := Kd.N_mono (ok' := fun k_ => w.heap.size ≤ k_) (Kd.N_lower HO.out HB2.out.size) (fun k hk => Nat.le_trans HB2.out.size hk)
      rw [AX.out, List.take_of_length_le hil'] at h
      exact h
end Go.Proofs.Ytdbeochifofdoaa.X
end

section
namespace Go.Proofs.Ytdbeochifofdoaa.X
open Go.RowKit Go.Proofs.YtdbeochifofdoaaW.PrintWords Go.Proofs.YtdbeochifofdoaaW.PrintLast Go.Proofs.YtdbeochifofdoaaW.PrintMore

/-- (mark).times: each of the three numbers times way. -/
def weigh_mark_times.f (a b c k : Int) : Option (Int × Int × Int) := some (wrap64 (a * k), wrap64 (b * k), wrap64 (c * k))
set_option maxHeartbeats 1000000 in
theorem weigh_mark_times.calls (a b c k r1 r2 r3 : Int) (w : World) (h : weigh_mark_times.f a b c k = some (r1, r2, r3)) :
    Calls Try.prog 94 #[.agg #[.int .i64 a, .int .i64 b, .int .i64 c], .int .i64 k] w fun e w' => e = .returned (.agg #[.int .i64 r1, .int .i64 r2, .int .i64 r3]) ∧ Below w.heap.size w w' := by
  simp only [weigh_mark_times.f, Option.some.injEq, Prod.mk.injEq] at h
  obtain ⟨rfl, rfl, rfl⟩ := h
  go_enter Try.func94, Try.ntmps94
  go_wp2
  go_rounds 4
  refine bodyPost_ret (v := .agg #[.int .i64 (wrap64 (a * k)), .int .i64 (wrap64 (b * k)), .int .i64 (wrap64 (c * k))]) (by simp [results, Try.results94, go_sem]) rfl ⟨rfl, ?_⟩
  repeat (first | exact Below.refl _ _ | (with_reducible apply below_alloc) | (with_reducible refine below_set ?_ (by simp)))
end Go.Proofs.Ytdbeochifofdoaa.X
end

section
-- Written by a program of this session (wip/hook.py, which runs the kit's print.py with contracts proved by hand). Not trusted: Lean checks it.
namespace Go.Proofs.Ytdbeochifofdoaa.X
open Go.RowKit Go.Proofs.YtdbeochifofdoaaW.PrintWords Go.Proofs.YtdbeochifofdoaaW.PrintLast Go.Proofs.YtdbeochifofdoaaW.PrintMore
attribute [local go_sem] max2_int min2_int max_two min_two max_three min_three max_four min_four   -- for this text's walks alone
set_option linter.unusedVariables false
set_option linter.unusedSimpArgs false

/-! ### weigh_chosen: function 89 -/
def weigh_chosen.l0 : Nat → List (S70) → List (S70) → List Int → Int → Int → Option ((List (S70)))
  | 0, _, _, _, _, _ => none
  | k + 1, x0, x5, x8, x9, x10 => if x10 < x9 then (if 0 ≤ x10 then (if x10 < (x8.length : Int) then (if (rd x8 x10) = 1 then (if x10 < (x0.length : Int) then (if x5.length < 5864062014805 then (weigh_chosen.l0 k x0 (x5 ++ [(⟨(rd_T70 x0 x10).f0, (rd_T70 x0 x10).f1, (rd_T70 x0 x10).f2⟩ : S70)]) x8 x9 (wrap64 (x10 + 1))) else (none)) else (none)) else (if (rd x8 x10) = 2 then (if x10 < (x0.length : Int) then ((weigh_mark_times.f ((rd_T70 x0 x10).f0) ((rd_T70 x0 x10).f1) ((rd_T70 x0 x10).f2) (-1)).bind fun bt114 => (if x5.length < 5864062014805 then (weigh_chosen.l0 k x0 (x5 ++ [(⟨bt114.1, bt114.2.1, bt114.2.2⟩ : S70)]) x8 x9 (wrap64 (x10 + 1))) else (none))) else (none)) else (weigh_chosen.l0 k x0 x5 x8 x9 (wrap64 (x10 + 1))))) else (none)) else (none)) else (some x5)
def weigh_chosen.f (k : Nat) (l0 : List (S70)) (l1 : List Int) : Option ((List (S70))) := weigh_chosen.l0 k l0 ([] : List (S70)) l1 (l1.length : Int) 0
set_option maxHeartbeats 8000000 in
set_option maxRecDepth 100000 in
theorem weigh_chosen.calls (k : Nat) (A0 : Option Addr) (c0 : Nat) (l0 : List (S70)) (A1 : Option Addr) (c1 : Nat) (l1 : List Int) (r : List (S70)) (w : World) (hr0 : Kd.C k70 w A0 l0.length l0) (hc0 : l0.length ≤ c0) (hr1 : Kd.C (Kd.int .i64) w A1 l1.length l1) (hc1 : l1.length ≤ c1) (h : weigh_chosen.f k l0 l1 = some r) :
    Calls Try.prog 89 #[.slice A0 l0.length c0, .slice A1 l1.length c1] w fun e w' => ∃ v0_ : Value, e = .returned (v0_) ∧ Kd.R k70 70 w' w.heap.size (fun _ => True) v0_ r ∧ Below w.heap.size w w' := by
  have hu70 := Try.underlying70
  have HR0 := Aside0.mk hr0
  have HC0 := Aside0.mk hc0
  clear hr0 hc0
  have HR1 := Aside0.mk hr1
  have HC1 := Aside0.mk hc1
  clear hr1 hc1
  have HB := Aside0.mk (Below.refl w.heap.size w)
  have H : (weigh_chosen.l0 k l0 ([] : List (S70)) l1 (l1.length : Int) 0) = some r := h
  clear h
  have H' := Aside0.mk H
  clear H
  go_enter Try.func89, Try.ntmps89
  go_wp2
  go_loopg [5, 10] k (fun kq v5 v10 w' => ∃ (x5_1 : List (S70)) (x10_1 : Int), v10 = .int .i64 x10_1 ∧ Aside0 (weigh_chosen.l0 kq l0 x5_1 l1 (l1.length : Int) x10_1 = some r) ∧ Aside0 (kq ≤ k) ∧ Aside0 (Kd.R k70 70 w' w.heap.size (fun _ => True) v5 x5_1) ∧ Aside0 (Below w.heap.size w w'))
  case atStart => exact ⟨(([] : List (S70))), (0), (by first | rfl | (simp; done) | (simp [*]; done)), H', ⟨Nat.le_refl _⟩, ⟨by first | exact Kd.R_nil _ _ _ _ _ | exact Kd.N_nil _ _ _ _ _ | exact Kd.V_nil _ _ _ _ _ | exact Kd.Q_nil _ _ _ _ _ | exact Kd.S_nil _ _ _ _ _⟩, ⟨by repeat (first | (with_reducible first | exact HB.out | apply below_alloc | apply pw_below_drewN | apply below_drew1) | exact HB.out)⟩⟩
  case round =>
    clear H'
    try clear c1
    try clear p2
    obtain ⟨x5_1, x10_1, rfl, HA, HK1, HO_5, HB⟩ := hrel
    cases gk with
    | zero => exact absurd HA.out (by simp [weigh_chosen.l0])
    | succ k1 =>
      have H := HA.out
      clear HA
      simp only [weigh_chosen.l0] at H
      by_cases c3 : x10_1 < (l1.length : Int)
      · rw [if_pos c3] at H
        have c3b0 : decide (x10_1 < (l1.length : Int)) = true := decide_eq_true c3
        clear c3
        by_cases c4 : 0 ≤ x10_1
        · rw [if_pos c4] at H
          have c4b0 : decide (0 ≤ x10_1) = true := decide_eq_true c4
          clear c4
          by_cases c5 : x10_1 < (l1.length : Int)
          · rw [if_pos c5] at H
            have c5b0 : decide (x10_1 < (l1.length : Int)) = true := decide_eq_true c5
            clear c5
            by_cases c6 : (rd l1 x10_1) = 1
            · rw [if_pos c6] at H
              have c6b0 : ((rd l1 x10_1) == 1) = true := beq_iff_eq.mpr c6
              have c6b1 : ((rd l1 x10_1) != 1) = false := bne_eq_false_iff_eq.mpr c6
              clear c6
              by_cases c7 : x10_1 < (l0.length : Int)
              · rw [if_pos c7] at H
                have c7b0 : decide (x10_1 < (l0.length : Int)) = true := decide_eq_true c7
                clear c7
                by_cases c8 : x5_1.length < 5864062014805
                · rw [if_pos c8] at H
                  have LMc8 := Aside0.mk c8
                  clear c8
                  obtain ⟨y110, hy110⟩ : ∃ y_ : List (S70), y_ = (x5_1 ++ [(⟨(rd_T70 l0 x10_1).f0, (rd_T70 l0 x10_1).f1, (rd_T70 l0 x10_1).f2⟩ : S70)]) := ⟨_, rfl⟩
                  replace H : (weigh_chosen.l0 k1 l0 y110 l1 (l1.length : Int) (wrap64 (x10_1 + 1))) = some r := by first | (rw [hy110]; with_reducible exact H) | (have H2_ := (Option.bind_some _ _).symm.trans H; rw [hy110]; with_reducible exact H2_) | (have H2_ := (Option.bind_some _ _).symm.trans H; with_reducible exact H2_) | with_reducible exact H | (rw [hy110]; exact H) | exact H
                  have Ny110 := Aside0.mk hy110
                  clear hy110
                  have H' := Aside0.mk H
                  clear H
                  have p108 : 0 ≤ (x10_1 : Int) := of_decide_eq_true (by first | (with_reducible assumption) | assumption)
                  have q108 : x10_1 < (l1.length : Int) := of_decide_eq_true (by first | (with_reducible assumption) | assumption)
                  obtain ⟨ad108, e108, hx108_0⟩ := Kd.at_int HR1.out x10_1 p108 q108
                  cases e108
                  replace hx108_0 := (HB.out.cell (World.block_lt_of_cell? w _ hx108_0)).trans hx108_0
                  replace p108 := eq_true p108
                  replace q108 := eq_true q108
                  have p109 : 0 ≤ (x10_1 : Int) := of_decide_eq_true (by first | (with_reducible assumption) | assumption)
                  have q109 : x10_1 < (l0.length : Int) := of_decide_eq_true (by first | (with_reducible assumption) | assumption)
                  obtain ⟨ad109, e109, hx109_0, hx109_1, hx109_2⟩ := at_T70 HR0.out x10_1 p109 q109
                  cases e109
                  replace hx109_0 := (HB.out.cell (World.block_lt_of_cell? w _ hx109_0)).trans hx109_0
                  replace hx109_1 := (HB.out.cell (World.block_lt_of_cell? w _ hx109_1)).trans hx109_1
                  replace hx109_2 := (HB.out.cell (World.block_lt_of_cell? w _ hx109_2)).trans hx109_2
                  replace p109 := eq_true p109
                  replace q109 := eq_true q109
                  go_wp2_with (first | ((with_reducible refine gate_builtin (b := .append) (xs := #[.tmp 18, .tmp 23]) rfl ?_); at_builtin; refine Kd.R_append k70 (w0 := w) w.heap.size rfl (.tmp 18) (.tmp 23) 59 70 (.agg #[(.int .i64 0), (.int .i64 0), (.int .i64 0)]) 24 rfl Try.underlying59 info70 rfl (by decide) (by omega) u5 x5_1 (⟨(rd_T70 l0 x10_1).f0, (rd_T70 l0 x10_1).f1, (rd_T70 l0 x10_1).f2⟩ : S70) [.int .i64 ((rd_T70 l0 x10_1).f0), .int .i64 ((rd_T70 l0 x10_1).f1), .int .i64 ((rd_T70 l0 x10_1).f2)] (fun _ => True) (fun _ => False) rfl rfl ?aP (fun _ hk => hk.elim) ?aF ?aO ?aB ?aS ?aL ?_; (case aP => exact k70_mkM _ _ _ (⟨(rd_T70 l0 x10_1).f0, (rd_T70 l0 x10_1).f1, (rd_T70 l0 x10_1).f2⟩ : S70)); (case aB => exact (by repeat (first | (with_reducible first | exact HB.out | apply below_alloc | apply pw_below_drewN | apply below_drew1) | exact HB.out))); (case aF => exact (fun _ _ => trivial)); (case aO => exact (by (with_reducible repeat (first | apply Kd.R_alloc | apply Kd.R_drewN | apply Kd.R_drew)); exact HO_5.out)); (case aS => exact (below_size (by repeat (first | (with_reducible first | exact HB.out | apply below_alloc | apply pw_below_drewN | apply below_drew1) | exact HB.out)))); (case aL => have := LMc8.out; omega); intro v111 w9 ho hb hg hat; rw [← Ny110.out] at ho; have n0_ := Aside0.mk (hb); have n1_ := Aside0.mk (ho); clear HB; clear HO_5; have HB := n0_; have HO112 := n1_; clear n0_ n1_; clear ho hb hg hat))
                  go_roundg k1
                  case measure => have := HK1.out; omega
                  case rel => exact ⟨(y110), (wrap64 (x10_1 + 1)), (by first | rfl | (simp; done) | (simp [*]; done)), H', ⟨by have := HK1.out; omega⟩, ⟨by (with_reducible repeat (first | apply Kd.R_alloc | apply Kd.R_drewN | apply Kd.R_drew)); exact HO112.out⟩, ⟨by repeat (first | (with_reducible first | exact HB.out | apply below_alloc | apply pw_below_drewN | apply below_drew1) | exact HB.out)⟩⟩
                · rw [if_neg c8] at H
                  exact absurd H (by simp)
              · rw [if_neg c7] at H
                exact absurd H (by simp)
            · rw [if_neg c6] at H
              have c6b0 : ((rd l1 x10_1) == 1) = false := beq_eq_false_iff_ne.mpr c6
              have c6b1 : ((rd l1 x10_1) != 1) = true := bne_iff_ne.mpr c6
              by_cases c10 : (rd l1 x10_1) = 2
              · rw [if_pos c10] at H
                have c10b0 : ((rd l1 x10_1) == 2) = true := beq_iff_eq.mpr c10
                have c10b1 : ((rd l1 x10_1) != 2) = false := bne_eq_false_iff_eq.mpr c10
                clear c10
                by_cases c11 : x10_1 < (l0.length : Int)
                · rw [if_pos c11] at H
                  have c11b0 : decide (x10_1 < (l0.length : Int)) = true := decide_eq_true c11
                  clear c11
                  replace H := Option.bind_eq_some_iff.mp H
                  obtain ⟨⟨t114, t115, t116⟩, A120, H⟩ := H
                  replace H : (if x5_1.length < 5864062014805 then (weigh_chosen.l0 k1 l0 (x5_1 ++ [(⟨t114, t115, t116⟩ : S70)]) l1 (l1.length : Int) (wrap64 (x10_1 + 1))) else (none)) = some r := H
                  have A12 := Aside0.mk A120
                  clear A120
                  by_cases c13 : x5_1.length < 5864062014805
                  · rw [if_pos c13] at H
                    have LMc13 := Aside0.mk c13
                    clear c13
                    obtain ⟨y117, hy117⟩ : ∃ y_ : List (S70), y_ = (x5_1 ++ [(⟨t114, t115, t116⟩ : S70)]) := ⟨_, rfl⟩
                    replace H : (weigh_chosen.l0 k1 l0 y117 l1 (l1.length : Int) (wrap64 (x10_1 + 1))) = some r := by first | (rw [hy117]; with_reducible exact H) | (have H2_ := (Option.bind_some _ _).symm.trans H; rw [hy117]; with_reducible exact H2_) | (have H2_ := (Option.bind_some _ _).symm.trans H; with_reducible exact H2_) | with_reducible exact H | (rw [hy117]; exact H) | exact H
                    have Ny117 := Aside0.mk hy117
                    clear hy117
                    have H' := Aside0.mk H
                    clear H
                    have p108 : 0 ≤ (x10_1 : Int) := of_decide_eq_true (by first | (with_reducible assumption) | assumption)
                    have q108 : x10_1 < (l1.length : Int) := of_decide_eq_true (by first | (with_reducible assumption) | assumption)
                    obtain ⟨ad108, e108, hx108_0⟩ := Kd.at_int HR1.out x10_1 p108 q108
                    cases e108
                    replace hx108_0 := (HB.out.cell (World.block_lt_of_cell? w _ hx108_0)).trans hx108_0
                    replace p108 := eq_true p108
                    replace q108 := eq_true q108
                    have p113 : 0 ≤ (x10_1 : Int) := of_decide_eq_true (by first | (with_reducible assumption) | assumption)
                    have q113 : x10_1 < (l0.length : Int) := of_decide_eq_true (by first | (with_reducible assumption) | assumption)
                    obtain ⟨ad113, e113, hx113_0, hx113_1, hx113_2⟩ := at_T70 HR0.out x10_1 p113 q113
                    cases e113
                    replace hx113_0 := (HB.out.cell (World.block_lt_of_cell? w _ hx113_0)).trans hx113_0
                    replace hx113_1 := (HB.out.cell (World.block_lt_of_cell? w _ hx113_1)).trans hx113_1
                    replace hx113_2 := (HB.out.cell (World.block_lt_of_cell? w _ hx113_2)).trans hx113_2
                    replace p113 := eq_true p113
                    replace q113 := eq_true q113
                    go_wp2_with (first | ((with_reducible refine gate_callee (f := 94) rfl ?_); refine goesL_ (some 32) rfl rfl Try.func94 (by kernel_rfl) rfl #[.agg #[.int .i64 ((rd_T70 l0 x10_1).f0), .int .i64 ((rd_T70 l0 x10_1).f1), .int .i64 ((rd_T70 l0 x10_1).f2)], .int .i64 (-1)] rfl (by (try simp only [List.map_toArray, List.map_cons, List.map_nil]); first | done | rfl | (simp only [List.length_drop, List.length_take]; rfl)) ?_; (with_reducible refine (weigh_mark_times.calls ((rd_T70 l0 x10_1).f0) ((rd_T70 l0 x10_1).f1) ((rd_T70 l0 x10_1).f2) (-1) t114 t115 t116 _ A12.out).mono ?_); rintro e w14 ⟨rfl, hb⟩; refine ⟨_, rfl, ?_⟩; have n0_ := Aside0.mk (Kd.R_below (by (with_reducible repeat (first | apply Kd.R_alloc | apply Kd.R_drewN | apply Kd.R_drew)); exact HO_5.out) hb); have n1_ := Aside0.mk (below_step (by repeat (first | (with_reducible first | exact HB.out | apply below_alloc | apply pw_below_drewN | apply below_drew1) | exact HB.out)) hb); clear HO_5; clear HB; have HO_5 := n0_; have HB := n1_; clear n0_ n1_; (try clear hb); (try clear hb2); (try clear hk); (try clear hi)) | ((with_reducible refine gate_builtin (b := .append) (xs := #[.tmp 27, .tmp 33]) rfl ?_); at_builtin; refine Kd.R_append k70 (w0 := w) w.heap.size rfl (.tmp 27) (.tmp 33) 59 70 (.agg #[(.int .i64 0), (.int .i64 0), (.int .i64 0)]) 24 rfl Try.underlying59 info70 rfl (by decide) (by omega) u5 x5_1 (⟨t114, t115, t116⟩ : S70) [.int .i64 t114, .int .i64 t115, .int .i64 t116] (fun _ => True) (fun _ => False) rfl rfl ?aP (fun _ hk => hk.elim) ?aF ?aO ?aB ?aS ?aL ?_; (case aP => exact k70_mkM _ _ _ (⟨t114, t115, t116⟩ : S70)); (case aB => exact (by repeat (first | (with_reducible first | exact HB.out | apply below_alloc | apply pw_below_drewN | apply below_drew1) | exact HB.out))); (case aF => exact (fun _ _ => trivial)); (case aO => exact (by (with_reducible repeat (first | apply Kd.R_alloc | apply Kd.R_drewN | apply Kd.R_drew)); exact HO_5.out)); (case aS => exact (below_size (by repeat (first | (with_reducible first | exact HB.out | apply below_alloc | apply pw_below_drewN | apply below_drew1) | exact HB.out)))); (case aL => have := LMc13.out; omega); intro v118 w15 ho hb hg hat; rw [← Ny117.out] at ho; have n0_ := Aside0.mk (hb); have n1_ := Aside0.mk (ho); clear HB; clear HO_5; have HB := n0_; have HO119 := n1_; clear n0_ n1_; clear ho hb hg hat))
                    go_roundg k1
                    case measure => have := HK1.out; omega
                    case rel => exact ⟨(y117), (wrap64 (x10_1 + 1)), (by first | rfl | (simp; done) | (simp [*]; done)), H', ⟨by have := HK1.out; omega⟩, ⟨by (with_reducible repeat (first | apply Kd.R_alloc | apply Kd.R_drewN | apply Kd.R_drew)); exact HO119.out⟩, ⟨by repeat (first | (with_reducible first | exact HB.out | apply below_alloc | apply pw_below_drewN | apply below_drew1) | exact HB.out)⟩⟩
                  · rw [if_neg c13] at H
                    exact absurd H (by simp)
                · rw [if_neg c11] at H
                  exact absurd H (by simp)
              · rw [if_neg c10] at H
                have c10b0 : ((rd l1 x10_1) == 2) = false := beq_eq_false_iff_ne.mpr c10
                have c10b1 : ((rd l1 x10_1) != 2) = true := bne_iff_ne.mpr c10
                have H' := Aside0.mk H
                clear H
                have p108 : 0 ≤ (x10_1 : Int) := of_decide_eq_true (by first | (with_reducible assumption) | assumption)
                have q108 : x10_1 < (l1.length : Int) := of_decide_eq_true (by first | (with_reducible assumption) | assumption)
                obtain ⟨ad108, e108, hx108_0⟩ := Kd.at_int HR1.out x10_1 p108 q108
                cases e108
                replace hx108_0 := (HB.out.cell (World.block_lt_of_cell? w _ hx108_0)).trans hx108_0
                replace p108 := eq_true p108
                replace q108 := eq_true q108
                go_wp2
                go_roundg k1
                case measure => have := HK1.out; omega
                case rel => exact ⟨(x5_1), (wrap64 (x10_1 + 1)), (by first | rfl | (simp; done) | (simp [*]; done)), H', ⟨by have := HK1.out; omega⟩, ⟨by (with_reducible repeat (first | apply Kd.R_alloc | apply Kd.R_drewN | apply Kd.R_drew)); exact HO_5.out⟩, ⟨by repeat (first | (with_reducible first | exact HB.out | apply below_alloc | apply pw_below_drewN | apply below_drew1) | exact HB.out)⟩⟩
          · rw [if_neg c5] at H
            exact absurd H (by simp)
        · rw [if_neg c4] at H
          exact absurd H (by simp)
      · rw [if_neg c3] at H
        have c3b0 : decide (x10_1 < (l1.length : Int)) = false := decide_eq_false c3
        clear c3
        obtain rfl := Option.some.inj H
        go_wp2
        go_ret
        exact ⟨_, by first | rfl | (simp [errW_none, errW_some] <;> rfl) | (simp [*, errW_none, errW_some] <;> rfl), by (with_reducible repeat (first | apply Kd.R_alloc | apply Kd.R_drewN | apply Kd.R_drew)); exact HO_5.out, by repeat (first | (with_reducible first | exact HB.out | apply below_alloc | apply pw_below_drewN | apply below_drew1) | exact HB.out)⟩

end Go.Proofs.Ytdbeochifofdoaa.X
end

section
/-! weigh.possible. -/
namespace Go.Proofs.Ytdbeochifofdoaa.X
open Go.RowKit Go.Proofs.YtdbeochifofdoaaW.PrintWords Go.Proofs.YtdbeochifofdoaaW.PrintLast Go.Proofs.YtdbeochifofdoaaW.PrintMore
set_option linter.unusedVariables false
set_option linter.unusedSimpArgs false

def negm (m : S70) : S70 := ⟨wrap64 (m.f0 * -1), wrap64 (m.f1 * -1), wrap64 (m.f2 * -1)⟩
/-- The marks that are taken, as they are (1) or turned (2). -/
def chosenL : List S70 → List Int → List S70
  | m :: ms, x :: xs => if x = 1 then m :: chosenL ms xs else if x = 2 then negm m :: chosenL ms xs else chosenL ms xs
  | _, _ => []
theorem chosenL_len : ∀ (l : List S70) (c : List Int), (chosenL l c).length ≤ c.length
  | [], _ => by simp [chosenL]
  | m :: ms, [] => by simp [chosenL]
  | m :: ms, x :: xs => by
    have := chosenL_len ms xs
    unfold chosenL
    split
    · simp; omega
    · split <;> simp <;> omega

theorem chosen_l0 (l : List S70) (c : List Int) (hlc : c.length ≤ l.length) (hl : l.length ≤ 1000) (d : Nat) :
    ∀ (k i : Nat) (acc : List S70), i ≤ c.length → c.length - i = d → d < k → acc.length ≤ i → weigh_chosen.l0 k l acc c (c.length : Int) (i : Int) = some (acc ++ chosenL (l.drop i) (c.drop i)) := by
  induction d with
  | zero =>
    intro k i acc h1 h2 h3 h4
    obtain ⟨k, rfl⟩ : ∃ m, k = m + 1 := ⟨k - 1, by omega⟩
    simp only [weigh_chosen.l0]
    rw [if_neg (by omega), List.drop_eq_nil_of_le (show c.length ≤ i by omega)]
    cases l.drop i <;> simp [chosenL]
  | succ d ih =>
    intro k i acc h1 h2 h3 h4
    obtain ⟨k, rfl⟩ : ∃ m, k = m + 1 := ⟨k - 1, by omega⟩
    simp only [weigh_chosen.l0]
    rw [if_pos (by omega), if_pos (by omega), if_pos (by omega), dropD z70 l i (by omega), dropD 0 c i (by omega), rd_nat]
    rw [show rd_T70 l (i : Int) = l.getD i z70 from rfl]
    have e1 : wrap64 ((i : Int) + 1) = ((i + 1 : Nat) : Int) := by rw [wr1 (by omega) (by omega)]; omega
    rw [e1]
    generalize l.getD i z70 = m
    generalize c.getD i 0 = x
    by_cases hx1 : x = 1
    · rw [if_pos hx1, if_pos (by omega), if_pos (by omega), ih k (i + 1) _ (by omega) (by omega) (by omega) (by simp; omega)]
      simp [chosenL, hx1]
    · rw [if_neg hx1]
      by_cases hx2 : x = 2
      · rw [if_pos hx2, if_pos (by omega)]
        simp only [weigh_mark_times.f, Option.bind_some]
        rw [if_pos (by omega), ih k (i + 1) _ (by omega) (by omega) (by omega) (by simp; omega)]
        simp [chosenL, hx2, negm]
      · rw [if_neg hx2, ih k (i + 1) _ (by omega) (by omega) (by omega) (by omega)]
        simp [chosenL, hx1, hx2]
theorem chosen_f (l : List S70) (c : List Int) (hlc : c.length ≤ l.length) (hl : l.length ≤ 1000) : weigh_chosen.f (c.length + 1) l c = some (chosenL l c) := by
  have h := chosen_l0 l c hlc hl c.length (c.length + 1) 0 [] (by omega) (by omega) (by omega) (by simp)
  unfold weigh_chosen.f
  rw [show ((0 : Nat) : Int) = 0 from rfl] at h
  rw [h]
  simp

def addm (a m : S70) : S70 := ⟨wrap64 (a.f0 + m.f0), wrap64 (a.f1 + m.f1), wrap64 (a.f2 + m.f2)⟩
def sumL (l : List S70) : S70 := l.foldl addm z70
def awayB (m x : Int) : Bool := !(decide (wrap64 (-m) ≤ x) && decide (x ≤ m))
/-- Can the choices for the first marks go on? -/
def possibleB (l : List S70) (c : List Int) (lots : Int) : Bool :=
  if lots - (chosenL l c).length < 0 ∨ (l.length : Int) - c.length < lots - (chosenL l c).length then false
  else !([(sumL (chosenL l c)).f0, (sumL (chosenL l c)).f1, (sumL (chosenL l c)).f2].any (awayB (lots - (chosenL l c).length)))

theorem slice70all (W : World) (B : Nat) : (Instr.sliceAt 70 (.pointer (some ⟨B, 0, none⟩)) none none none).run Try.prog W = .ok (.slice (some ⟨B, 0, none⟩) 3 3) W := by
  have h := run_sliceAt_array_all (P := Try.prog) W 70 ⟨B, 0, none⟩ (by kernel_rfl)
  rw [h, show Try.prog.elem 70 = 3 from by kernel_rfl, show Try.prog.arrayLen 70 = 3 from by kernel_rfl]
  have hs : (sizeOf 3).run Try.prog W = .ok 1 W := by kernel_rfl
  rw [hs]
  simp [Result.andThen, slicedAt, add_plain]
theorem index70_0 (a b c : Int) (W : World) : (Instr.index 70 (.agg #[.int .i64 a, .int .i64 b, .int .i64 c]) (.int .i64 0)).run Try.prog W = .ok (.int .i64 a) W := by kernel_rfl
theorem index70_1 (a b c : Int) (W : World) : (Instr.index 70 (.agg #[.int .i64 a, .int .i64 b, .int .i64 c]) (.int .i64 1)).run Try.prog W = .ok (.int .i64 b) W := by kernel_rfl
theorem index70_2 (a b c : Int) (W : World) : (Instr.index 70 (.agg #[.int .i64 a, .int .i64 b, .int .i64 c]) (.int .i64 2)).run Try.prog W = .ok (.int .i64 c) W := by kernel_rfl
theorem three_put {W : World} {g : Nat} {m : S70} (h : W.heap[g]? = some (.cells (cells3 m) 70 (0, 0))) (a b c : Int) :
    (((W.setCell ⟨g, 0, none⟩ (.int .i64 a)).setCell ⟨g, 1, none⟩ (.int .i64 b)).setCell ⟨g, 2, none⟩ (.int .i64 c)).heap[g]? = some (.cells (cells3 ⟨a, b, c⟩) 70 (0, 0)) :=
  blk_set (blk_set (blk_set h 0 _) 1 _) 2 _
theorem eg113 (args : Array Value) (w : World) : (callFunc 113 args).run Try.prog w = .ok (.enter 113 args) w := enters_of Try.func113 (by kernel_rfl) rfl args w

set_option maxHeartbeats 8000000 in
set_option maxRecDepth 100000 in
theorem possible_calls (A0 : Option Addr) (c0 : Nat) (l : List S70) (A1 : Option Addr) (c1 : Nat) (c : List Int) (lots : Int) (w : World) (hr0 : Kd.C k70 w A0 l.length l) (hc0 : l.length ≤ c0) (hr1 : (Kd.int .i64).C w A1 c.length c) (hc1 : c.length ≤ c1)
    (hlc : c.length ≤ l.length) (hl : l.length ≤ 13) (hlo : 0 ≤ lots) (hhi : lots ≤ 13) :
    Calls Try.prog 88 #[.slice A0 l.length c0, .slice A1 c.length c1, .int .i64 lots] w fun e w' => e = .returned (.bool (possibleB l c lots)) ∧ Below w.heap.size w w' := by
  have HR0 := Aside0.mk hr0
  have HR1 := Aside0.mk hr1
  have HC0 := Aside0.mk hc0
  have HC1 := Aside0.mk hc1
  have HF := Aside0.mk (chosen_f l c hlc (by omega))
  have hol : (chosenL l c).length ≤ 13 := Nat.le_trans (chosenL_len l c) (by omega)
  obtain ⟨q, hq⟩ : ∃ q, q = possibleB l c lots := ⟨_, rfl⟩
  rw [← hq]
  unfold possibleB at hq
  generalize chosenL l c = own at *
  have HQ := Aside0.mk hq
  clear hr0 hr1 hc0 hc1 hq
  go_enter Try.func88, Try.ntmps88
  go_wp2_with fail
  refine (weigh_chosen.calls _ A0 c0 l A1 c1 c own _ HR0.out HC0.out HR1.out HC1.out HF.out).mono ?_
  rintro e w1 ⟨v, rfl, hO, hb⟩
  obtain ⟨A, cc, rfl⟩ := Kd.R_slice hO
  obtain ⟨_, hoc, hC⟩ := Kd.R_reads' hO
  have HO := Aside0.mk hC
  have HB := Aside0.mk hb
  clear hO hC hb
  by_cases h1 : lots - (own.length : Int) < 0
  · have HQ1 := Aside0.mk (show q = false by rw [HQ.out, if_pos (.inl h1)])
    go_wp2
    go_ret
    exact ⟨by rw [HQ1.out]; rfl, below_alloc HB.out _⟩
  by_cases h2 : (l.length : Int) - c.length < lots - own.length
  · have HQ1 := Aside0.mk (show q = false by rw [HQ.out, if_pos (.inr h2)])
    go_wp2
    go_ret
    exact ⟨by rw [HQ1.out]; rfl, below_alloc HB.out _⟩
  have HQ1 := Aside0.mk (show q = !([(sumL own).f0, (sumL own).f1, (sumL own).f2].any (awayB (lots - own.length))) by rw [HQ.out, if_neg (by omega)])
  clear HQ
  go_wp2
  generalize hS : sumL own = S at *
  have HS := Aside0.mk hS
  clear hS
  go_loopg [34] own.length (fun gg s wr => ∃ (i : Nat) (acc : S70), i ≤ own.length ∧ own.length - i ≤ gg ∧ s = .int .i64 i ∧ Aside0 (Below w1.heap.size w1 wr) ∧ Aside0 (wr.heap[w1.heap.size]? = some (.cells #[.int .i64 (lots - own.length)] 3 (0, 0))) ∧ Aside0 (wr.heap[w1.heap.size + 1]? = some (.cells (cells3 acc) 70 (0, 0))) ∧ Aside0 ((own.drop i).foldl addm acc = S))
  case atStart =>
    refine ⟨0, z70, Nat.zero_le _, by omega, rfl, ⟨below_alloc (below_alloc (Below.refl _ _) _) _⟩, ⟨blk_alloc (blk_new _ _) _⟩, ⟨?_⟩, ⟨by rw [← HS.out]; simp [sumL]⟩⟩
    have h := blk_new (w1.alloc (.cells #[.int .i64 (lots - own.length)] 3)) (.cells (cells3 z70) 70)
    rw [show (w1.alloc (.cells #[.int .i64 (lots - own.length)] 3)).heap.size = w1.heap.size + 1 from by simp] at h
    exact h
  case round =>
    obtain ⟨i, acc, hi, hg, rfl, BR, H8, H9, AS⟩ := hrel
    have c90 := blk_cell H9.out 0
    have c91 := blk_cell H9.out 1
    have c92 := blk_cell H9.out 2
    rw [show (cells3 acc)[0]? = some (.int .i64 acc.f0) from rfl] at c90
    rw [show (cells3 acc)[1]? = some (.int .i64 acc.f1) from rfl] at c91
    rw [show (cells3 acc)[2]? = some (.int .i64 acc.f2) from rfl] at c92
    have f90 := blk_frozen H9.out 0
    have f91 := blk_frozen H9.out 1
    have f92 := blk_frozen H9.out 2
    have sz9 : w1.heap.size + 1 < wr.heap.size := blk_lt H9.out
    have sz8 : w1.heap.size < wr.heap.size := by omega
    by_cases hil : i < own.length
    · have hilz : (i : Int) < (own.length : Int) := by omega
      obtain ⟨ad, e1, hx0, hx1, hx2⟩ := at_T70 HO.out i (by omega) hilz
      cases e1
      replace hx0 := (BR.out.cell (World.block_lt_of_cell? w1 _ hx0)).trans hx0
      replace hx1 := (BR.out.cell (World.block_lt_of_cell? w1 _ hx1)).trans hx1
      replace hx2 := (BR.out.cell (World.block_lt_of_cell? w1 _ hx2)).trans hx2
      simp only [Int.toNat_natCast] at hx0 hx1 hx2
      rw [show rd_T70 own (i : Int) = own.getD i z70 from rfl] at hx0 hx1 hx2
      have Bi : Aside0 (own.drop i = own.getD i z70 :: own.drop (i + 1)) := ⟨dropD _ _ i hil⟩
      generalize own.getD i z70 = m at *
      have i0 := index70_0 m.f0 m.f1 m.f2
      have i1 := index70_1 m.f0 m.f1 m.f2
      have i2 := index70_2 m.f0 m.f1 m.f2
      go_wp2
      go_rounds 4
      go_roundg (own.length - (i + 1))
      case measure => omega
      case rel =>
        refine ⟨i + 1, addm acc m, by omega, by omega, by go_num, ⟨?_⟩, ⟨?_⟩, ⟨?_⟩, ⟨?_⟩⟩
        · repeat (first | (with_reducible exact BR.out) | (with_reducible apply below_alloc) | (with_reducible refine below_set ?_ (Nat.le_succ _)))
        · repeat (first | (with_reducible exact H8.out) | (with_reducible refine blk_alloc ?_ _) | (with_reducible refine blk_far ?_ (by simp) _))
        · repeat (first | (with_reducible refine blk_alloc ?_ _) | exact three_put H9.out _ _ _)
        · rw [← AS.out, Bi.out]
          rfl
    · have hilz : ¬ (i : Int) < (own.length : Int) := by omega
      have hacc : acc = S := by
        have h := AS.out
        rw [List.drop_eq_nil_of_le (by omega)] at h
        exact h
      subst hacc
      have hsl := slice70all
      go_wp2_with fail
      refine (containsFunc97 113 #[.pointer (some ⟨w1.heap.size, 0, none⟩)] eg113 (awayB (lots - own.length)) (some ⟨w1.heap.size + 1, 0, none⟩) 3 [acc.f0, acc.f1, acc.f2] _ ?hr ?hp).mono ?_
      case hr => exact C_block (l := [acc.f0, acc.f1, acc.f2]) H9.out 3 (by simp) (by simp)
      case hp =>
        intro W x _ hbW
        exact lit113 x (lots - own.length) w1.heap.size W (blk_cell (blk_below H8.out hbW) 0)
      rintro e w' ⟨rfl, hb'⟩
      have HBn := Aside0.mk ((HB.out.trans (BR.out.mono HB.out.size)).trans (hb'.mono (Nat.le_trans HB.out.size BR.out.size)))
      clear hb' hsl c90 c91 c92 f90 f91 f92
      generalize hA : [acc.f0, acc.f1, acc.f2].any (awayB (lots - own.length)) = b at *
      go_wp2
      go_ret
      exact ⟨by rw [HQ1.out]; rfl, HBn.out⟩
end Go.Proofs.Ytdbeochifofdoaa.X
end

section
-- Written by a program of this session (wip/hook.py, which runs the kit's print.py with contracts proved by hand). Not trusted: Lean checks it.
namespace Go.Proofs.Ytdbeochifofdoaa.X
open Go.RowKit Go.Proofs.YtdbeochifofdoaaW.PrintWords Go.Proofs.YtdbeochifofdoaaW.PrintLast Go.Proofs.YtdbeochifofdoaaW.PrintMore
attribute [local go_sem] max2_int min2_int max_two min_two max_three min_three max_four min_four   -- for this text's walks alone
set_option linter.unusedVariables false
set_option linter.unusedSimpArgs false

/-! ### bits_Mul64: function 123 -/
def bits_Mul64.f (a0 : Int) (a1 : Int) : Option (Int × Int) := some (IntKind.u64.wrap ((IntKind.u64.wrap ((IntKind.u64.wrap ((a0 / 4294967296) * (a1 / 4294967296))) + ((IntKind.u64.wrap ((IntKind.u64.wrap ((a0 / 4294967296) * (Go.bits .and .u64 a1 4294967295))) + ((IntKind.u64.wrap ((Go.bits .and .u64 a0 4294967295) * (Go.bits .and .u64 a1 4294967295))) / 4294967296))) / 4294967296))) + ((IntKind.u64.wrap ((Go.bits .and .u64 (IntKind.u64.wrap ((IntKind.u64.wrap ((a0 / 4294967296) * (Go.bits .and .u64 a1 4294967295))) + ((IntKind.u64.wrap ((Go.bits .and .u64 a0 4294967295) * (Go.bits .and .u64 a1 4294967295))) / 4294967296))) 4294967295) + (IntKind.u64.wrap ((Go.bits .and .u64 a0 4294967295) * (a1 / 4294967296))))) / 4294967296)), IntKind.u64.wrap (a0 * a1))
set_option maxHeartbeats 8000000 in
set_option maxRecDepth 100000 in
theorem bits_Mul64.calls (a0 : Int) (a1 : Int) (r1 : Int) (r2 : Int) (w : World) (h : bits_Mul64.f a0 a1 = some (r1, r2)) :
    Calls Try.prog 123 #[.int .u64 a0, .int .u64 a1] w fun e w' => e = .returned (.tuple #[.int .u64 r1, .int .u64 r2]) ∧ Drawn0 w w' := by
  have H : (some (IntKind.u64.wrap ((IntKind.u64.wrap ((IntKind.u64.wrap ((a0 / 4294967296) * (a1 / 4294967296))) + ((IntKind.u64.wrap ((IntKind.u64.wrap ((a0 / 4294967296) * (Go.bits .and .u64 a1 4294967295))) + ((IntKind.u64.wrap ((Go.bits .and .u64 a0 4294967295) * (Go.bits .and .u64 a1 4294967295))) / 4294967296))) / 4294967296))) + ((IntKind.u64.wrap ((Go.bits .and .u64 (IntKind.u64.wrap ((IntKind.u64.wrap ((a0 / 4294967296) * (Go.bits .and .u64 a1 4294967295))) + ((IntKind.u64.wrap ((Go.bits .and .u64 a0 4294967295) * (Go.bits .and .u64 a1 4294967295))) / 4294967296))) 4294967295) + (IntKind.u64.wrap ((Go.bits .and .u64 a0 4294967295) * (a1 / 4294967296))))) / 4294967296)), IntKind.u64.wrap (a0 * a1))) = some (r1, r2) := h
  clear h
  simp only [Option.some.injEq, Prod.mk.injEq] at H
  obtain ⟨rfl, rfl⟩ := H
  go_enter Try.func123, Try.ntmps123
  go_wp2
  go_ret2
  exact ⟨by first | rfl | (simp; done) | (simp [*]; done), by repeat (first | exact Drawn0.refl _ | apply Drawn0.step)⟩

/-! ### bits_Mul: function 112 -/
def bits_Mul.f (a0 : Int) (a1 : Int) : Option (Int × Int) := (bits_Mul64.f a0 a1).bind fun bt106 => (some (bt106.1, bt106.2))
set_option maxHeartbeats 8000000 in
set_option maxRecDepth 100000 in
theorem bits_Mul.calls (a0 : Int) (a1 : Int) (r1 : Int) (r2 : Int) (w : World) (h : bits_Mul.f a0 a1 = some (r1, r2)) :
    Calls Try.prog 112 #[.int .u64 a0, .int .u64 a1] w fun e w' => e = .returned (.tuple #[.int .u64 r1, .int .u64 r2]) ∧ Drawn0 w w' := by
  have H : ((bits_Mul64.f a0 a1).bind fun bt106 => (some (bt106.1, bt106.2))) = some (r1, r2) := h
  clear h
  replace H := Option.bind_eq_some_iff.mp H
  obtain ⟨⟨t106, t107⟩, A30, H⟩ := H
  replace H : (some (t106, t107)) = some (r1, r2) := H
  have A3 := Aside0.mk A30
  clear A30
  simp only [Option.some.injEq, Prod.mk.injEq] at H
  obtain ⟨rfl, rfl⟩ := H
  go_enter Try.func112, Try.ntmps112
  go_wp2_with (first | ((with_reducible refine gate_callee (f := 123) rfl ?_); refine goesL_ (some 25) rfl rfl Try.func123 (by kernel_rfl) rfl #[.int .u64 a0, .int .u64 a1] rfl (by (try simp only [List.map_toArray, List.map_cons, List.map_nil]); first | done | rfl | (simp only [List.length_drop, List.length_take]; rfl)) ?_; (with_reducible refine (bits_Mul64.calls a0 a1 t106 t107 _ A3.out).mono ?_); rintro e w' ⟨rfl, ⟨nd, rfl⟩⟩; refine ⟨_, rfl, ?_⟩))
  go_ret2
  exact ⟨by first | rfl | (simp; done) | (simp [*]; done), by repeat (first | exact Drawn0.refl _ | apply Drawn0.step)⟩

-- NOT PRINTED: function 87 (weigh_choice)

-- GIVEN: function 94 (weigh_mark_times): YtdbeochifofdoaaG94

end Go.Proofs.Ytdbeochifofdoaa.X
end
