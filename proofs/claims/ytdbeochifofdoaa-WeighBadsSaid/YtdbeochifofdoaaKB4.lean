/- The law WeighBads of the given program: there is a proof exactly if a plan does not tell.
Its conditions: none beyond the statement's own. Part 5 of 5 of the proof. -/
import Derived.Handy
import Derived.WalkSpells
import Derived.Shelf.Abstract
import Derived.Test.YtdbeochifofdoaaRows
import Derived.WalkKit
import Derived.ProofKit
import Derived.OpenShut
import Derived.ShutString
import Derived.ChangeOld
import Derived.Below
import Derived.Carry
import Derived.SizedLaws
import Derived.Test.YtdbeochifofdoaaKB3
section
/-! What the document's small functions come to. -/
namespace Go.Proofs.Ytdbeochifofdoaa.X
open Go.RowKit Go.Proofs.YtdbeochifofdoaaW.PrintWords Go.Proofs.YtdbeochifofdoaaW.PrintLast
set_option linter.unusedVariables false
set_option linter.unusedSimpArgs false

theorem wrs (i : Nat) (h : i < 9223372036854775807) : wrap64 ((i : Int) + 1) = ((i + 1 : Nat) : Int) := by rw [wr1 (by omega) (by omega)]; omega

theorem has_l0 (l : List Int) (x : Int) (hl : l.length < 9223372036854775807) : ∀ (d k i : Nat), i ≤ l.length → l.length - i = d → d < k → verditerref06_has.l0 k l x i = some ((l.drop i).contains x)
  | 0, k + 1, i, h1, h2, _ => by
    unfold verditerref06_has.l0
    rw [if_neg (by omega), List.drop_eq_nil_of_le (by omega)]
    rfl
  | d + 1, k + 1, i, h1, h2, h3 => by
    unfold verditerref06_has.l0
    rw [if_pos (by omega), if_pos (by omega), rd_nat, dropD 0 l i (by omega), List.contains_cons, wrs i (by omega)]
    have ih := has_l0 l x hl d k (i + 1) (by omega) (by omega) (by omega)
    by_cases hx : l.getD i 0 = x
    · rw [if_pos hx, hx]; simp
    · have hbe : (x == l.getD i 0) = false := by rw [beq_eq_false_iff_ne]; exact fun e => hx e.symm
      rw [if_neg hx, ih, hbe, Bool.false_or]
theorem has_f (l : List Int) (x : Int) (k : Nat) (hl : l.length < 9223372036854775807) (hk : l.length < k) : verditerref06_has.f k l x = some (l.contains x) := by
  unfold verditerref06_has.f
  exact (has_l0 l x hl l.length k 0 (by omega) (by omega) hk).trans (by simp)

/-- The document's mark of a lot. -/
def markOf (x : Int) (y : S53) : Int := if y.f1.contains x then -1 else if y.f0.contains x then 1 else 0
def refMark (l : List S53) (x : Int) : List Int := l.map (markOf x)
theorem mark_l0 (l : List S53) (x : Int) (hl : l.length < 17592186044416) (hs : ∀ y, y ∈ l → y.f0.length ≤ 50 ∧ y.f1.length ≤ 50) :
    ∀ (d k i : Nat) (acc : List Int), i ≤ l.length → l.length - i = d → acc.length = i → d + 51 < k → verditerref06_mark.l0 k l x acc i = some (acc ++ refMark (l.drop i) x)
  | 0, k + 1, i, acc, h1, h2, _, _ => by
    unfold verditerref06_mark.l0
    rw [if_neg (by omega), List.drop_eq_nil_of_le (by omega)]
    simp [refMark]
  | d + 1, k + 1, i, acc, h1, h2, h3, h4 => by
    unfold verditerref06_mark.l0
    have hb := hs _ (mem_getD z53 l i (by omega))
    have hr : refMark (l.drop i) x = markOf x (l.getD i z53) :: refMark (l.drop (i + 1)) x := by rw [dropD z53 l i (by omega)]; rfl
    have ih := fun v => mark_l0 l x hl hs d k (i + 1) (acc ++ [v]) (by omega) (by omega) (by simp [h3]) (by omega)
    rw [if_pos (by omega), if_pos (by omega), show rd_T53 l (i : Int) = l.getD i z53 from rfl, has_f _ x k (by omega) (by omega), has_f _ x k (by omega) (by omega), wrs i (by omega), hr]
    simp only [Option.bind_some, if_pos (show acc.length < 17592186044416 by omega), ih]
    unfold markOf
    cases (l.getD i z53).f0.contains x <;> cases (l.getD i z53).f1.contains x <;> simp
theorem mark_f (l : List S53) (x : Int) (k : Nat) (hl : l.length < 17592186044416) (hs : ∀ y, y ∈ l → y.f0.length ≤ 50 ∧ y.f1.length ≤ 50) (hk : l.length + 51 < k) : verditerref06_mark.f k l x = some (refMark l x) := by
  unfold verditerref06_mark.f
  exact (mark_l0 l x hl hs l.length k 0 [] (by omega) (by omega) rfl hk).trans (by simp)

theorem times_l0 (l : List Int) (x : Int) (hl : l.length < 17592186044416) :
    ∀ (d k i : Nat) (acc : List Int), i ≤ l.length → l.length - i = d → acc.length = i → d < k → verditerref06_times.l0 k l x acc i = some (acc ++ (l.drop i).map fun y => wrap64 (x * y))
  | 0, k + 1, i, acc, h1, h2, _, _ => by
    unfold verditerref06_times.l0
    rw [if_neg (by omega), List.drop_eq_nil_of_le (by omega)]
    simp
  | d + 1, k + 1, i, acc, h1, h2, h3, h4 => by
    unfold verditerref06_times.l0
    have ih := times_l0 l x hl d k (i + 1) (acc ++ [wrap64 (x * l.getD i 0)]) (by omega) (by omega) (by simp [h3]) (by omega)
    rw [if_pos (by omega), if_pos (by omega), if_pos (show acc.length < 17592186044416 by omega), rd_nat, wrs i (by omega), ih, dropD 0 l i (by omega)]
    simp
theorem times_f (l : List Int) (x : Int) (k : Nat) (hl : l.length < 17592186044416) (hk : l.length < k) : verditerref06_times.f k l x = some (l.map fun y => wrap64 (x * y)) := by
  unfold verditerref06_times.f
  exact (times_l0 l x hl l.length k 0 [] (by omega) (by omega) rfl hk).trans (by simp)
theorem isBlank_l0 (l : List Int) (hl : l.length < 9223372036854775807) : ∀ (d k i : Nat), i ≤ l.length → l.length - i = d → d < k → verditerref06_isBlank.l0 k l i = some ((l.drop i).all (· == 0))
  | 0, k + 1, i, h1, h2, _ => by
    unfold verditerref06_isBlank.l0
    rw [if_neg (by omega), List.drop_eq_nil_of_le (by omega)]
    rfl
  | d + 1, k + 1, i, h1, h2, h3 => by
    unfold verditerref06_isBlank.l0
    rw [if_pos (by omega), if_pos (by omega), rd_nat, dropD 0 l i (by omega), List.all_cons, wrs i (by omega)]
    have ih := isBlank_l0 l hl d k (i + 1) (by omega) (by omega) (by omega)
    by_cases hx : l.getD i 0 = 0
    · rw [if_pos hx, hx, ih]; rfl
    · have hbe : (l.getD i 0 == 0) = false := by rw [beq_eq_false_iff_ne]; exact hx
      rw [if_neg hx, hbe]
      rfl
theorem isBlank_f (l : List Int) (k : Nat) (hl : l.length < 9223372036854775807) (hk : l.length < k) : verditerref06_isBlank.f k l = some (l.all (· == 0)) := by
  unfold verditerref06_isBlank.f
  exact (isBlank_l0 l hl l.length k 0 (by omega) (by omega) hk).trans (by simp)
theorem same_l0 (l m : List Int) (hl : l.length < 9223372036854775807) (he : l.length = m.length) : ∀ (d k i : Nat), i ≤ l.length → l.length - i = d → d < k → verditerref06_SameInts.l0 k l m i = some (l.drop i == m.drop i)
  | 0, k + 1, i, h1, h2, _ => by
    unfold verditerref06_SameInts.l0
    rw [if_neg (by omega), List.drop_eq_nil_of_le (by omega), List.drop_eq_nil_of_le (by omega)]
    rfl
  | d + 1, k + 1, i, h1, h2, h3 => by
    unfold verditerref06_SameInts.l0
    rw [if_pos (by omega), if_pos (by omega), if_pos (by omega), rd_nat, rd_nat, dropD 0 l i (by omega), dropD 0 m i (by omega), List.cons_beq_cons, wrs i (by omega)]
    have ih := same_l0 l m hl he d k (i + 1) (by omega) (by omega) (by omega)
    by_cases hx : l.getD i 0 = m.getD i 0
    · have hbe : (l.getD i 0 == m.getD i 0) = true := by rw [beq_iff_eq]; exact hx
      rw [if_pos hx, ih, hbe, Bool.true_and]
    · have hbe : (l.getD i 0 == m.getD i 0) = false := by rw [beq_eq_false_iff_ne]; exact hx
      rw [if_neg hx, hbe]
      rfl
theorem same_f (l m : List Int) (k : Nat) (hl : l.length < 9223372036854775807) (hk : l.length < k) : verditerref06_SameInts.f k l m = some (l == m) := by
  unfold verditerref06_SameInts.f
  by_cases he : l.length = m.length
  · rw [if_pos (by omega)]
    exact (same_l0 l m hl he l.length k 0 (by omega) (by omega) hk).trans (by simp)
  · rw [if_neg (by omega)]
    have : (l == m) = false := by rw [beq_eq_false_iff_ne]; exact fun e => he (by rw [e])
    rw [this]
end Go.Proofs.Ytdbeochifofdoaa.X
end

section
/-! The document's Validate is the program's. -/
namespace Go.Proofs.Ytdbeochifofdoaa.X
open Go.RowKit Go.Proofs.YtdbeochifofdoaaW.PrintWords Go.Proofs.YtdbeochifofdoaaW.PrintLast
set_option linter.unusedVariables false
set_option linter.unusedSimpArgs false

theorem val_l1 (lots : Int) (l : List S53) (i : Nat) (hi : i < l.length) (hm : l.length < 9223372036854775807) (hs : ∀ y, y ∈ l → y.f0.length ≤ 50 ∧ y.f1.length ≤ 50) (K : Nat) (r : Int)
    (hc : ∀ k, K ≤ k → verditerref06_Validate.l0 k lots l ((i + 1 : Nat) : Int) = some r) :
    ∀ (d j k : Nat), j ≤ (l.getD i z53).f0.length → (l.getD i z53).f0.length - j = d → K + d + 60 ≤ k →
      verditerref06_Validate.l1 k lots l i j = some (if ((l.getD i z53).f0.drop j).any (fun n => (l.getD i z53).f1.contains n) = true then 6 else if (l.getD i z53).f0.length = (l.getD i z53).f1.length then r else 5)
  | 0, j, k + 1, h1, h2, h3 => by
    unfold verditerref06_Validate.l1
    rw [if_pos (by omega), if_pos (by omega), show rd_T53 l (i : Int) = l.getD i z53 from rfl, if_neg (by omega), List.drop_eq_nil_of_le (by omega), wrs i (by omega), hc k (by omega)]
    by_cases he : (l.getD i z53).f0.length = (l.getD i z53).f1.length
    · rw [if_pos (by omega), List.any_nil, if_neg (by simp), if_pos he]
    · rw [if_neg (by omega), List.any_nil, if_neg (by simp), if_neg he]
  | d + 1, j, k + 1, h1, h2, h3 => by
    have hb := hs _ (mem_getD z53 l i hi)
    unfold verditerref06_Validate.l1
    have ih := val_l1 lots l i hi hm hs K r hc d (j + 1) k (by omega) (by omega) (by omega)
    rw [if_pos (by omega), if_pos (by omega), show rd_T53 l (i : Int) = l.getD i z53 from rfl, if_pos (by omega), if_pos (by omega), rd_nat, has_f _ _ k (by omega) (by omega), wrs j (by omega), ih, dropD 0 (l.getD i z53).f0 j (by omega), List.any_cons, Option.bind_some]
    cases hq : (l.getD i z53).f1.contains ((l.getD i z53).f0.getD j 0) with
    | true => rw [if_pos rfl, Bool.true_or, if_pos rfl]
    | false => rw [if_neg (by simp), Bool.false_or]
theorem val_l0 (lots : Int) (hl : 1 ≤ lots ∧ lots ≤ 13) (l : List S53) (hm : l.length < 9223372036854775807) (hs : ∀ y, y ∈ l → y.f0.length ≤ 50 ∧ y.f1.length ≤ 50) :
    ∀ (d i k : Nat), i ≤ l.length → l.length - i = d → 200 * (d + 1) ≤ k → verditerref06_Validate.l0 k lots l i = some (vErr lots (l.drop i))
  | 0, i, k + 1, h1, h2, h3 => by
    unfold verditerref06_Validate.l0
    rw [if_neg (by omega), List.drop_eq_nil_of_le (by omega)]
    rfl
  | d + 1, i, k + 2, h1, h2, h3 => by
    have hb := hs _ (mem_getD z53 l i (by omega))
    have hv : vErr lots (l.drop i) = if wErr lots (l.getD i z53) = 0 then vErr lots (l.drop (i + 1)) else wErr lots (l.getD i z53) := by rw [dropD z53 l i (by omega)]; rfl
    have hc : ∀ k, 200 * (d + 1) ≤ k → verditerref06_Validate.l0 k lots l ((i + 1 : Nat) : Int) = some (vErr lots (l.drop (i + 1))) := fun k hk => val_l0 lots hl l hm hs d (i + 1) k (by omega) (by omega) hk
    have h1' := val_l1 lots l i (by omega) hm hs (200 * (d + 1)) _ hc (l.getD i z53).f0.length 0 k (by omega) (by omega) (by omega)
    have hj : ∀ b, verditerref06_Validate.j1 (k + 1) lots l i b = if b = true then some 1 else verditerref06_Validate.l1 k lots l i 0 := fun b => by unfold verditerref06_Validate.j1; rfl
    unfold verditerref06_Validate.l0
    rw [if_pos (by omega), if_pos (by omega), show rd_T53 l (i : Int) = l.getD i z53 from rfl]
    simp only [verditerref06_isSet.f, if_pos hl, Option.bind_some, hj]
    rw [show ((0 : Nat) : Int) = 0 from rfl] at h1'
    rw [h1', hv]
    unfold wErr
    cases isSetB lots (l.getD i z53).f0 <;> cases isSetB lots (l.getD i z53).f1 <;> simp <;> (split <;> simp_all)
theorem refValidate_f (lots : Int) (l : List S53) (hm : l.length < 9223372036854775807) (hs : ∀ y, y ∈ l → y.f0.length ≤ 50 ∧ y.f1.length ≤ 50) (k : Nat) (hk : 800 ≤ k) : verditerref06_Validate.f k lots l = some (pErr lots l) := by
  unfold verditerref06_Validate.f pErr
  rw [rwithin_b, Option.bind_some]
  by_cases hl : 1 ≤ lots ∧ lots ≤ 13
  · have hb : (decide (1 ≤ lots) && decide (lots ≤ 13)) = true := by simp [hl]
    rw [if_pos hb, if_pos hl]
    by_cases h3 : 3 < l.length
    · rw [if_pos (by omega), if_pos h3]
    · rw [if_neg (by omega), if_neg h3]
      exact val_l0 lots hl l hm hs l.length 0 k (by omega) (by omega) (by omega)
  · have hb : ¬ (decide (1 ≤ lots) && decide (lots ≤ 13)) = true := by simpa using hl
    rw [if_neg hb, if_neg hl]
end Go.Proofs.Ytdbeochifofdoaa.X
end

section
/-! Long; the document's tells. -/
namespace Go.Proofs.Ytdbeochifofdoaa.X
open Go.RowKit Go.Proofs.YtdbeochifofdoaaW.PrintWords Go.Proofs.YtdbeochifofdoaaW.PrintLast
set_option linter.unusedVariables false
set_option linter.unusedSimpArgs false

/-- Has a weighing a long list? -/
def longW (y : S53) : Bool := decide (50 < y.f0.length) || decide (50 < y.f1.length)
def longB (l : List S53) : Bool := decide (50 < l.length) || l.any longW
theorem long_l0 (l : List S53) (hm : l.length < 9223372036854775807) : ∀ (d k i : Nat), i ≤ l.length → l.length - i = d → d < k → verditerlaw06_Long.l0 k l i = some ((l.drop i).any longW)
  | 0, k + 1, i, h1, h2, _ => by
    unfold verditerlaw06_Long.l0
    rw [if_neg (by omega), List.drop_eq_nil_of_le (by omega)]
    rfl
  | d + 1, k + 1, i, h1, h2, h3 => by
    unfold verditerlaw06_Long.l0
    rw [if_pos (by omega), if_pos (by omega), show rd_T53 l (i : Int) = l.getD i z53 from rfl, dropD z53 l i (by omega), List.any_cons, wrs i (by omega)]
    have ih := long_l0 l hm d k (i + 1) (by omega) (by omega) (by omega)
    generalize l.getD i z53 = y
    unfold longW
    by_cases ha : 50 < y.f0.length
    · rw [if_pos (by omega), decide_eq_true ha]; rfl
    · rw [if_neg (by omega), decide_eq_false ha]
      by_cases hb : 50 < y.f1.length
      · rw [if_pos (by omega), decide_eq_true hb]; rfl
      · rw [if_neg (by omega), decide_eq_false hb, ih]; rfl
theorem long_f (l : List S53) (hm : l.length < 9223372036854775807) (k : Nat) (hk : 51 < k) : verditerlaw06_Long.f k l = some (longB l) := by
  unfold verditerlaw06_Long.f longB
  by_cases h : 50 < l.length
  · rw [if_pos (by omega), decide_eq_true h]; rfl
  · rw [if_neg (by omega), decide_eq_false h]
    exact (long_l0 l hm l.length k 0 (by omega) (by omega) (by omega)).trans (by simp)
theorem long_not {l : List S53} (h : longB l = false) : l.length ≤ 50 ∧ ∀ y, y ∈ l → y.f0.length ≤ 50 ∧ y.f1.length ≤ 50 := by
  unfold longB at h
  rw [Bool.or_eq_false_iff] at h
  refine ⟨by simpa using h.1, fun y hy => ?_⟩
  have := (List.any_eq_false.mp h.2) y hy
  unfold longW at this
  simpa using this

/-- Are the marks of the lots i and j the same, or opposite? -/
def pairB (l : List S53) (i j : Nat) : Bool := (refMark l i == refMark l j) || (refMark l i == (refMark l j).map fun y => wrap64 (-1 * y))
theorem tel_l1 (lots : Int) (l : List S53) (hm : l.length ≤ 3) (hs : ∀ y, y ∈ l → y.f0.length ≤ 50 ∧ y.f1.length ≤ 50) (i : Nat) (hi : i < 9223372036854775807) (K : Nat) (r : Bool)
    (hc : ∀ k, K ≤ k → verditerref06_tells.l0 k lots l ((i + 1 : Nat) : Int) = some r) :
    ∀ (d j k : Nat), i - j = d → j ≤ i → K + d + 60 ≤ k → verditerref06_tells.l1 k lots l i (refMark l i) j = some (if (List.range' j d).any (pairB l i) = true then false else r)
  | 0, j, k + 1, h1, h2, h3 => by
    unfold verditerref06_tells.l1
    rw [if_neg (by omega), wrs i hi, hc k (by omega)]
    rfl
  | d + 1, j, k + 1, h1, h2, h3 => by
    have ih := tel_l1 lots l hm hs i hi K r hc d (j + 1) k (by omega) (by omega) (by omega)
    have hlen : ∀ x, (refMark l x).length ≤ 3 := fun x => by unfold refMark; rw [List.length_map]; exact hm
    unfold verditerref06_tells.l1
    rw [if_pos (by omega), mark_f l _ k (by omega) hs (by omega), Option.bind_some, same_f _ _ k (by have := hlen i; omega) (by have := hlen i; omega), Option.bind_some, Option.bind_some,
      times_f _ _ k (by have := hlen j; omega) (by have := hlen j; omega), Option.bind_some, same_f _ _ k (by have := hlen i; omega) (by have := hlen i; omega), Option.bind_some, wrs j (by omega), ih, List.range'_succ, List.any_cons]
    unfold pairB
    cases (refMark l i == refMark l j) <;> cases (refMark l i == (refMark l j).map fun y => wrap64 (-1 * y)) <;> simp
/-- Do the lots from i on, d of them, tell? -/
def telB (l : List S53) : Nat → Nat → Bool
  | 0, _ => true
  | d + 1, i => if (refMark l i).all (· == 0) = true then false else if (List.range' 0 i).any (pairB l i) = true then false else telB l d (i + 1)
theorem telB_succ (l : List S53) (d i : Nat) : telB l (d + 1) i = if (refMark l i).all (· == 0) = true then false else if (List.range' 0 i).any (pairB l i) = true then false else telB l d (i + 1) := rfl
theorem tel_l0 (n : Nat) (hn : n ≤ 13) (l : List S53) (hm : l.length ≤ 3) (hs : ∀ y, y ∈ l → y.f0.length ≤ 50 ∧ y.f1.length ≤ 50) :
    ∀ (d i k : Nat), i + d = n → 100 * (d + 1) ≤ k → verditerref06_tells.l0 k n l i = some (telB l d i)
  | 0, i, k + 1, h1, h2 => by
    unfold verditerref06_tells.l0
    rw [if_neg (by omega)]
    rfl
  | d + 1, i, k + 1, h1, h2 => by
    have hlen : (refMark l i).length ≤ 3 := by unfold refMark; rw [List.length_map]; exact hm
    have h := tel_l1 n l hm hs i (by omega) (100 * (d + 1)) (telB l d (i + 1)) (fun k hk => tel_l0 n hn l hm hs d (i + 1) k (by omega) hk) i 0 k (by omega) (by omega) (by omega)
    rw [show ((0 : Nat) : Int) = 0 from rfl] at h
    unfold verditerref06_tells.l0
    rw [if_pos (by omega), mark_f l _ k (by omega) hs (by omega), Option.bind_some, isBlank_f _ k (by omega) (by omega), Option.bind_some, h]
    rw [telB_succ]
    split <;> rfl
theorem refTells_f (lots : Int) (l : List S53) (hm : l.length < 9223372036854775807) (hs : ∀ y, y ∈ l → y.f0.length ≤ 50 ∧ y.f1.length ≤ 50) (k : Nat) (hk : 2000 ≤ k) :
    verditerref06_Tells.f k lots l = some (if pErr lots l = 0 then (telB l lots.toNat 0, 0) else (false, pErr lots l)) := by
  unfold verditerref06_Tells.f
  rw [refValidate_f lots l hm hs k (by omega), Option.bind_some]
  by_cases h : pErr lots l = 0
  · rw [if_pos h, if_pos h]
    have hp : (1 ≤ lots ∧ lots ≤ 13) ∧ l.length ≤ 3 := by
      unfold pErr at h
      split at h
      · rename_i h1
        split at h
        · cases h
        · exact ⟨h1, by omega⟩
      · cases h
    obtain ⟨n, rfl⟩ := Int.eq_ofNat_of_zero_le (show 0 ≤ lots by omega)
    unfold verditerref06_tells.f
    have := tel_l0 n (by omega) l hp.2 hs n 0 k (by omega) (by omega)
    rw [show ((0 : Nat) : Int) = 0 from rfl] at this
    rw [this]
    rfl
  · rw [if_neg h, if_neg h]
end Go.Proofs.Ytdbeochifofdoaa.X
end

section
/-! The program's marks are the document's. -/
namespace Go.Proofs.Ytdbeochifofdoaa.X
open Go.RowKit Go.Proofs.YtdbeochifofdoaaW.PrintWords Go.Proofs.YtdbeochifofdoaaW.PrintLast
set_option linter.unusedVariables false
set_option linter.unusedSimpArgs false

theorem fsetl_at (k : Nat) (v : Int) : ∀ (l : List Int) (f : Nat → Nat → Int) (a b : Nat), (∀ x, x ∈ l → 0 ≤ x) → fsetl k v f l a b = if b = k ∧ l.contains (a : Int) = true then v else f a b
  | [], f, a, b, _ => by simp [fsetl]
  | x :: xs, f, a, b, h => by
    have hx : 0 ≤ x := h x List.mem_cons_self
    rw [fsetl, fsetl_at k v xs _ a b (fun y hy => h y (List.mem_cons_of_mem _ hy)), List.contains_cons]
    by_cases hb : b = k
    · subst hb
      cases hc : xs.contains (a : Int) with
      | true => simp
      | false =>
        unfold upd
        by_cases he : a = x.toNat
        · have h1 : ((a : Int) == x) = true := by rw [beq_iff_eq]; omega
          rw [h1]; simp [he]
        · have h1 : ((a : Int) == x) = false := by rw [beq_eq_false_iff_ne]; omega
          simp [he, h1]
    · simp [hb, upd]
/-- What a weighing writes into the row a. -/
def cellOf (y : S53) (a v : Int) : Int := if y.f1.contains a = true then -1 else if y.f0.contains a = true then 1 else v
theorem marksF_at : ∀ (l : List S53) (f : Nat → Nat → Int) (k a b : Nat), (∀ y, y ∈ l → (∀ x, x ∈ y.f0 → 0 ≤ x) ∧ ∀ x, x ∈ y.f1 → 0 ≤ x) →
    marksF f k l a b = if k ≤ b ∧ b < k + l.length then cellOf (l.getD (b - k) z53) a (f a b) else f a b
  | [], f, k, a, b, _ => by
    rw [if_neg (by rw [List.length_nil]; omega)]
    rfl
  | y :: ys, f, k, a, b, h => by
    have hy := h y List.mem_cons_self
    rw [marksF, marksF_at ys _ (k + 1) a b (fun z hz => h z (List.mem_cons_of_mem _ hz)), fsetl_at k (-1) y.f1 _ a b hy.2, fsetl_at k 1 y.f0 f a b hy.1]
    by_cases hb : b = k
    · subst hb
      rw [if_neg (by omega), if_pos (show b ≤ b ∧ b < b + (y :: ys).length by rw [List.length_cons]; omega), Nat.sub_self, List.getD_cons_zero]
      unfold cellOf
      simp
    · by_cases hr : k + 1 ≤ b ∧ b < k + 1 + ys.length
      · rw [if_pos hr, if_pos (show k ≤ b ∧ b < k + (y :: ys).length by rw [List.length_cons]; omega), show b - k = (b - (k + 1)) + 1 by omega]
        simp [hb, List.getD_cons_succ]
      · rw [if_neg hr, if_neg (show ¬ (k ≤ b ∧ b < k + (y :: ys).length) by rw [List.length_cons]; omega)]
        simp [hb]
end Go.Proofs.Ytdbeochifofdoaa.X
end

section
/-! bad finds nothing just if the plan tells. -/
namespace Go.Proofs.Ytdbeochifofdoaa.X
open Go.RowKit Go.Proofs.YtdbeochifofdoaaW.PrintWords Go.Proofs.YtdbeochifofdoaaW.PrintLast
set_option linter.unusedVariables false
set_option linter.unusedSimpArgs false

/-- A lot's mark, as three numbers. -/
def mk3 (l : List S53) (n : Nat) : S70 := ⟨((refMark l n).getD 0 0), ((refMark l n).getD 1 0), ((refMark l n).getD 2 0)⟩
theorem cellOf_mark (y : S53) (n : Nat) : cellOf y n 0 = markOf n y := rfl
theorem marksF_mk (l : List S53) (hp : ∀ y, y ∈ l → (∀ x, x ∈ y.f0 → 0 ≤ x) ∧ ∀ x, x ∈ y.f1 → 0 ≤ x) (n k : Nat) : marksF (fun _ _ => 0) 0 l n k = (refMark l n).getD k 0 := by
  rw [marksF_at l _ 0 n k hp]
  by_cases h : k < l.length
  · rw [if_pos (by omega), cellOf_mark]
    simp [refMark, List.getD_eq_getElem?_getD, List.getElem?_map, List.getElem?_eq_getElem h]
  · rw [if_neg (by omega)]
    simp [refMark, List.getD_eq_getElem?_getD, List.getElem?_eq_none (by simpa using h : l.length ≤ k)]
theorem marksL_mk (lots : Int) (l : List S53) (hp : ∀ y, y ∈ l → (∀ x, x ∈ y.f0 → 0 ≤ x) ∧ ∀ x, x ∈ y.f1 → 0 ≤ x) : marksL lots l = (List.range lots.toNat).map (mk3 l) := by
  unfold marksL rowsOf mk3
  simp only [marksF_mk l hp]
theorem markOf_small (n : Int) (y : S53) : -1 ≤ markOf n y ∧ markOf n y ≤ 1 := by
  unfold markOf
  split
  · decide
  · split <;> decide
theorem isZ_mk (l : List S53) (n : Nat) (hl : l.length ≤ 3) : isZ (mk3 l n) = (refMark l n).all (· == 0) := by
  match l, hl with
  | [], _ => rfl
  | [a], _ => simp [isZ, mk3, refMark]
  | [a, b], _ => simp [isZ, mk3, refMark]
  | [a, b, c], _ => simp [isZ, mk3, refMark, Bool.and_assoc]
theorem wr_small {v : Int} (h : -1 ≤ v ∧ v ≤ 1) : wrap64 (v * 1) = v ∧ wrap64 (v * -1) = -v ∧ wrap64 (-1 * v) = -v := by
  refine ⟨?_, ?_, ?_⟩
  · rw [Int.mul_one]; exact wr_of (by omega) (by omega)
  · rw [show v * -1 = -v by omega]; exact wr_of (by omega) (by omega)
  · rw [show -1 * v = -v by omega]; exact wr_of (by omega) (by omega)
end Go.Proofs.Ytdbeochifofdoaa.X
end

section
/-! bad finds nothing just if the document's tells. -/
namespace Go.Proofs.Ytdbeochifofdoaa.X
open Go.RowKit Go.Proofs.YtdbeochifofdoaaW.PrintWords Go.Proofs.YtdbeochifofdoaaW.PrintLast
set_option linter.unusedVariables false
set_option linter.unusedSimpArgs false

theorem sm_pos {x y : Int} (hx : -1 ≤ x ∧ x ≤ 1) : (y == wrap64 (x * 1)) = (x == y) := by
  rw [(wr_small hx).1]; exact BEq.comm
theorem sm_neg {x y : Int} (hx : -1 ≤ x ∧ x ≤ 1) (hy : -1 ≤ y ∧ y ≤ 1) : (y == wrap64 (x * -1)) = (x == wrap64 (-1 * y)) := by
  rw [(wr_small hx).2.1, (wr_small hy).2.2]
  rw [Bool.eq_iff_iff, beq_iff_eq, beq_iff_eq]
  omega
theorem eqTim_pos (l : List S53) (hl : l.length ≤ 3) (i j : Nat) : eqTim (mk3 l j) (mk3 l i) 1 = (refMark l i == refMark l j) := by
  have h0 : ((0 : Int) == wrap64 (0 * 1)) = true := by rw [(wr_small (v := 0) (by omega)).1]; rfl
  have hn : (([] : List Int) == []) = true := rfl
  match l, hl with
  | [], _ => simp only [eqTim, mk3, refMark, List.map_nil, List.getD_nil, h0, hn, Bool.and_true]
  | [a], _ => simp only [eqTim, mk3, refMark, List.map_cons, List.map_nil, List.getD_cons_zero, List.getD_cons_succ, List.getD_nil, h0, sm_pos (markOf_small _ _), List.cons_beq_cons, hn, Bool.and_true]
  | [a, b], _ => simp only [eqTim, mk3, refMark, List.map_cons, List.map_nil, List.getD_cons_zero, List.getD_cons_succ, List.getD_nil, h0, sm_pos (markOf_small _ _), List.cons_beq_cons, hn, Bool.and_true]
  | [a, b, c], _ => simp only [eqTim, mk3, refMark, List.map_cons, List.map_nil, List.getD_cons_zero, List.getD_cons_succ, List.getD_nil, h0, sm_pos (markOf_small _ _), List.cons_beq_cons, hn, Bool.and_true]
theorem eqTim_neg (l : List S53) (hl : l.length ≤ 3) (i j : Nat) : eqTim (mk3 l j) (mk3 l i) (-1) = (refMark l i == (refMark l j).map fun y => wrap64 (-1 * y)) := by
  have h0 : ((0 : Int) == wrap64 (0 * -1)) = true := by rw [(wr_small (v := 0) (by omega)).2.1]; rfl
  have hn : (([] : List Int) == []) = true := rfl
  match l, hl with
  | [], _ => simp only [eqTim, mk3, refMark, List.map_nil, List.getD_nil, h0, hn, Bool.and_true]
  | [a], _ => simp only [eqTim, mk3, refMark, List.map_cons, List.map_nil, List.getD_cons_zero, List.getD_cons_succ, List.getD_nil, h0, sm_neg (markOf_small _ _) (markOf_small _ _), List.cons_beq_cons, hn, Bool.and_true]
  | [a, b], _ => simp only [eqTim, mk3, refMark, List.map_cons, List.map_nil, List.getD_cons_zero, List.getD_cons_succ, List.getD_nil, h0, sm_neg (markOf_small _ _) (markOf_small _ _), List.cons_beq_cons, hn, Bool.and_true]
  | [a, b, c], _ => simp only [eqTim, mk3, refMark, List.map_cons, List.map_nil, List.getD_cons_zero, List.getD_cons_succ, List.getD_nil, h0, sm_neg (markOf_small _ _) (markOf_small _ _), List.cons_beq_cons, hn, Bool.and_true]
theorem pair_eq (l : List S53) (hl : l.length ≤ 3) (i j : Nat) : (eqTim (mk3 l j) (mk3 l i) 1 || eqTim (mk3 l j) (mk3 l i) (-1)) = pairB l i j := by
  rw [eqTim_pos l hl, eqTim_neg l hl]; rfl
theorem badJ_none (m : S70) (i : Int) : ∀ (os : List S70) (j : Int), (badJ m i os j).isNone = !(os.any fun o => eqTim o m 1 || eqTim o m (-1))
  | [], _ => rfl
  | o :: os, j => by
    rw [badJ, List.any_cons]
    cases h1 : eqTim o m 1 with
    | true => rfl
    | false =>
      cases h2 : eqTim o m (-1) with
      | true => rfl
      | false =>
        rw [if_neg (by simp), if_neg (by simp), badJ_none m i os]
        rfl
theorem badI_none (l : List S53) (hl : l.length ≤ 3) (n : Nat) : ∀ (d i : Nat), i + d = n →
    (badI ((List.range n).map (mk3 l)) (((List.range n).map (mk3 l)).drop i) i).isNone = telB l d i
  | 0, i, h => by
    rw [List.drop_eq_nil_of_le (by simp; omega)]
    rfl
  | d + 1, i, h => by
    have ih := badI_none l hl n d (i + 1) (by omega)
    have ht : (((List.range n).map (mk3 l)).take i) = (List.range i).map (mk3 l) := by
      rw [← List.map_take, List.take_range, Nat.min_eq_left (by omega)]
    have hd : ((List.range n).map (mk3 l)).drop i = mk3 l i :: ((List.range n).map (mk3 l)).drop (i + 1) := by
      rw [List.drop_eq_getElem_cons (by simp; omega)]
      simp
    have hj : (badJ (mk3 l i) i ((List.range i).map (mk3 l)) 0).isNone = !((List.range' 0 i).any (pairB l i)) := by
      rw [badJ_none, List.any_map, List.range_eq_range']
      congr 2
      funext j
      exact pair_eq l hl i j
    rw [hd, badI, telB_succ, ht, isZ_mk l i hl]
    cases (refMark l i).all (· == 0) with
    | true => rfl
    | false =>
      rw [if_neg (by simp), if_neg (by simp)]
      generalize hq : badJ (mk3 l i) i ((List.range i).map (mk3 l)) 0 = q at *
      cases q with
      | none =>
        have : (List.range' 0 i).any (pairB l i) = false := by simpa using hj
        rw [this, if_neg (by simp)]
        exact ih
      | some v =>
        have : (List.range' 0 i).any (pairB l i) = true := by simpa using hj
        rw [this, if_pos rfl]
        rfl
theorem badOut_some (r : Option (Int × Int × Int × Int)) : (badOut r).2.2.2.2 = !r.isNone := by
  match r with
  | none => rfl
  | some (a, b, c, d) => rfl
theorem okP_pos {lots : Int} {l : List S53} (h : OkP lots l) : ∀ y, y ∈ l → (∀ x, x ∈ y.f0 → 0 ≤ x) ∧ ∀ x, x ∈ y.f1 → 0 ≤ x :=
  fun y hy => ⟨fun x hx => ((h.each y hy).left x hx).1, fun x hx => ((h.each y hy).right x hx).1⟩
theorem badI_tel {lots : Int} {l : List S53} (hp : pErr lots l = 0) : (badI (marksL lots l) (marksL lots l) 0).isNone = telB l lots.toNat 0 := by
  have ok := pErr_ok hp
  rw [marksL_mk lots l (okP_pos ok)]
  have := badI_none l ok.few lots.toNat lots.toNat 0 (by omega)
  simpa using this
theorem bad_tel {lots : Int} {l : List S53} (hp : pErr lots l = 0) : ∃ a b c d, weigh_bad.f lots l = some (a, b, c, d, !telB l lots.toNat 0) := by
  unfold weigh_bad.f
  rw [if_pos hp]
  have hb : (badOut (badI (marksL lots l) (marksL lots l) 0)).2.2.2.2 = !telB l lots.toNat 0 := by rw [badOut_some, badI_tel hp]
  generalize badOut (badI (marksL lots l) (marksL lots l) 0) = r at *
  obtain ⟨a, b, c, d, e⟩ := r
  obtain rfl : e = _ := hb
  exact ⟨a, b, c, d, rfl⟩
theorem Tells_f (lots : Int) (l : List S53) : weigh_Tells.f lots l = some (if pErr lots l = 0 then (telB l lots.toNat 0, 0) else (false, pErr lots l)) := by
  unfold weigh_Tells.f weigh_Validate.f
  rw [Option.bind_some]
  by_cases hp : pErr lots l = 0
  · rw [if_pos hp, if_pos hp]
    obtain ⟨a, b, c, d, h⟩ := bad_tel hp
    rw [h, Option.bind_some, Bool.not_not]
  · rw [if_neg hp, if_neg hp]
end Go.Proofs.Ytdbeochifofdoaa.X
end

section
namespace Go.Proofs.Ytdbeochifofdoaa.X
open Go.RowKit Go.Proofs.YtdbeochifofdoaaW.PrintWords Go.Proofs.YtdbeochifofdoaaW.PrintLast Go.Proofs.YtdbeochifofdoaaW.PrintMore

set_option maxHeartbeats 2000000 in
set_option maxRecDepth 100000 in
theorem indexFunc124 (g : Nat) (lb : Array Value) (eg : ∀ args w, (callFunc g args).run Try.prog w = .ok (.enter g args) w) (p : S35 → Bool) (A0 : Option Addr) (c0 : Nat) (l0 : List (S35)) (w : World)
    (hr0 : Kd.C k35 w A0 l0.length l0) (hp : ∀ (W : World) (x : S35), x ∈ l0 → Below w.heap.size w W → Calls Try.prog g (#[.agg #[.int .i64 x.f0, .int .i64 x.f1]] ++ lb) W fun e w' => e = .returned (.bool (p x)) ∧ Below W.heap.size W w') :
    Calls Try.prog 124 #[.slice A0 l0.length c0, .func (.func g) #[] lb] w fun e w' => e = .returned (.int .i64 (ixf p l0 0)) ∧ Below w.heap.size w w' := by
  have HR := Aside0.mk hr0
  have HP := Aside0.mk hp
  have HM := Aside0.mk (Kd.C_max hr0)
  clear hr0 hp
  have hlen : l0.length ≤ 9223372036854775807 := HM.out
  go_enter Try.func124, Try.ntmps124
  go_wp2
  go_loopg [5, 8] l0.length (fun gg _ s8 wr => ∃ kk : Nat, kk ≤ l0.length ∧ l0.length - kk ≤ gg ∧ s8 = .int .i64 kk ∧ Aside0 (Below w.heap.size w wr) ∧ Aside0 (ixf p (l0.drop kk) kk = ixf p l0 0))
  case atStart => exact ⟨0, Nat.zero_le _, by omega, rfl, ⟨Below.refl _ w⟩, ⟨by simp⟩⟩
  case round =>
    obtain ⟨kk, hkk, hg, rfl, BW, A⟩ := hrel
    by_cases hlt : kk < l0.length
    · have hltz : (kk : Int) < (l0.length : Int) := by omega
      obtain ⟨ad, e1, hcell, hcell1⟩ := at_T35 HR.out kk (by omega) hltz
      cases e1
      have hmem : rd_T35 l0 kk ∈ l0 := by simp [rd_T35, List.getD_eq_getElem?_getD, List.getElem?_eq_getElem hlt]
      have hcall := HP.out wr (rd_T35 l0 kk) hmem BW.out
      rw [show rd_T35 l0 (kk : Int) = l0.getD kk z35 from rfl] at hcall hcell hcell1
      replace hcell := (BW.out.cell (World.block_lt_of_cell? w _ hcell)).trans hcell
      replace hcell1 := (BW.out.cell (World.block_lt_of_cell? w _ hcell1)).trans hcell1
      simp only [Int.toNat_natCast] at hcell hcell1
      clear hmem
      generalize hy : (l0.getD kk z35) = y at *
      have B : Aside0 (l0.drop kk = y :: l0.drop (kk + 1)) := ⟨by rw [← hy]; exact drop_getD _ l0 kk hlt⟩
      clear hy
      cases hq : p y with
      | true =>
        rw [hq] at hcall
        have Q := Aside0.mk hq
        clear hq
        go_wp2_with (go_at_fn g; refine hcall.mono ?_; rintro e w' ⟨rfl, hb'⟩)
        go_ret
        refine ⟨?_, BW.out.trans (hb'.mono BW.out.size)⟩
        rw [← A.out, B.out, ixf, if_pos Q.out]
        rfl
      | false =>
        rw [hq] at hcall
        have Q := Aside0.mk hq
        clear hq
        go_wp2_with (go_at_fn g; refine hcall.mono ?_; rintro e w' ⟨rfl, hb'⟩)
        go_roundg (l0.length - (kk + 1))
        case measure => omega
        case rel =>
          refine ⟨kk + 1, by omega, by omega, by go_num, ⟨BW.out.trans (hb'.mono BW.out.size)⟩, ⟨?_⟩⟩
          rw [← A.out, B.out, ixf, if_neg (by rw [Q.out]; simp)]
          rfl
    · have hltz : ¬ (kk : Int) < (l0.length : Int) := by omega
      have hkl : l0.length ≤ kk := by omega
      go_wp2
      go_ret
      refine ⟨?_, BW.out⟩
      rw [← A.out, List.drop_eq_nil_of_le hkl]
      rfl
set_option maxHeartbeats 1000000 in
theorem containsFunc114 (g : Nat) (lb : Array Value) (eg : ∀ args w, (callFunc g args).run Try.prog w = .ok (.enter g args) w) (p : S35 → Bool) (A0 : Option Addr) (c0 : Nat) (l0 : List (S35)) (w : World)
    (hr0 : Kd.C k35 w A0 l0.length l0) (hp : ∀ (W : World) (x : S35), x ∈ l0 → Below w.heap.size w W → Calls Try.prog g (#[.agg #[.int .i64 x.f0, .int .i64 x.f1]] ++ lb) W fun e w' => e = .returned (.bool (p x)) ∧ Below W.heap.size W w') :
    Calls Try.prog 114 #[.slice A0 l0.length c0, .func (.func g) #[] lb] w fun e w' => e = .returned (.bool (l0.any p)) ∧ Below w.heap.size w w' := by
  rw [← ixf_any p l0 0 (by omega)]
  have HR := Aside0.mk hr0
  have HP := Aside0.mk hp
  clear hr0 hp
  go_enter Try.func114, Try.ntmps114
  go_wp2_with (go_at_call 124; refine (indexFunc124 g lb eg p A0 c0 l0 _ HR.out HP.out).mono ?_; rintro e w' ⟨rfl, hb'⟩)
  go_ret
  exact ⟨rfl, hb'⟩
end Go.Proofs.Ytdbeochifofdoaa.X
end

section
/-! weigh.cased. -/
namespace Go.Proofs.Ytdbeochifofdoaa.X
open Go.RowKit Go.Proofs.YtdbeochifofdoaaW.PrintWords Go.Proofs.YtdbeochifofdoaaW.PrintLast Go.Proofs.YtdbeochifofdoaaW.PrintMore
set_option linter.unusedVariables false
set_option linter.unusedSimpArgs false

/-- The error of lots, a plan and cases. -/
def cErr (lots : Int) (l : List S53) (cs : List S35) : Int :=
  if pErr lots l = 0 then (if cs.any (fun x => !(decide (0 ≤ x.f0) && decide (x.f0 ≤ lots - 1))) = true then 4 else if cs.any (fun x => x.f1 != 1 && x.f1 != -1) = true then 1 else 0) else pErr lots l
def weigh_cased.f (a0 : Int) (l1 : List S53) (l2 : List S35) : Option Int := some (cErr a0 l1 l2)

theorem eg115 (args : Array Value) (w : World) : (callFunc 115 args).run Try.prog w = .ok (.enter 115 args) w := enters_of Try.func115 (by kernel_rfl) rfl args w
theorem eg116 (args : Array Value) (w : World) : (callFunc 116 args).run Try.prog w = .ok (.enter 116 args) w := enters_of Try.func116 (by kernel_rfl) rfl args w

set_option maxHeartbeats 4000000 in
set_option maxRecDepth 100000 in
theorem weigh_cased.calls (a0 : Int) (A1 : Option Addr) (c1 : Nat) (l1 : List S53) (A2 : Option Addr) (c2 : Nat) (l2 : List S35) (r : Int) (w : World) (hr1 : Kd.C k53 w A1 l1.length l1) (hc1 : l1.length ≤ c1) (hr2 : Kd.C k35 w A2 l2.length l2) (hc2 : l2.length ≤ c2) (h : weigh_cased.f a0 l1 l2 = some r) :
    Calls Try.prog 95 #[.int .i64 a0, .slice A1 l1.length c1, .slice A2 l2.length c2] w fun e w' => e = .returned (.int .i64 r) ∧ Below w.heap.size w w' := by
  obtain rfl := Option.some.inj h
  have HR1 := Aside0.mk hr1
  have HR2 := Aside0.mk hr2
  have HC1 := Aside0.mk hc1
  clear h hr1 hr2 hc1 hc2
  by_cases hp : pErr a0 l1 = 0
  rotate_left
  · have e1 : cErr a0 l1 l2 = pErr a0 l1 := by unfold cErr; rw [if_neg hp]
    rw [e1]
    have hf : weigh_Validate.f a0 l1 = some (pErr a0 l1) := rfl
    clear e1
    generalize pErr a0 l1 = p at *
    have HF := Aside0.mk hf
    have q1 : (p != 0) = true := by simpa using hp
    clear hf hp
    go_enter Try.func95, Try.ntmps95
    go_wp2_with (go_at_call 58; refine (weigh_Validate.calls a0 A1 c1 l1 p _ (Kd.C_alloc HR1.out _) HC1.out HF.out).mono ?_; rintro e w' ⟨rfl, hb⟩)
    go_ret
    exact ⟨rfl, (below_alloc (Below.refl _ _) _).trans (hb.mono (by simp))⟩
  have OK := Aside0.mk (pErr_ok hp)
  have hf : weigh_Validate.f a0 l1 = some 0 := by rw [weigh_Validate.f, hp]
  have e1 : cErr a0 l1 l2 = if l2.any (fun x => !(decide (0 ≤ x.f0) && decide (x.f0 ≤ a0 - 1))) = true then 4 else if l2.any (fun x => x.f1 != 1 && x.f1 != -1) = true then 1 else 0 := by unfold cErr; rw [if_pos hp]
  rw [e1]
  obtain ⟨q, hq⟩ : ∃ q : Int, q = if l2.any (fun x => !(decide (0 ≤ x.f0) && decide (x.f0 ≤ a0 - 1))) = true then 4 else if l2.any (fun x => x.f1 != 1 && x.f1 != -1) = true then 1 else 0 := ⟨_, rfl⟩
  rw [← hq]
  have HQ := Aside0.mk hq
  have HF := Aside0.mk hf
  clear e1 hf hp hq
  have hlo : 1 ≤ a0 := OK.out.lo
  have hhi : a0 ≤ 13 := OK.out.hi
  go_enter Try.func95, Try.ntmps95
  go_wp2_with fail
  refine (weigh_Validate.calls a0 A1 c1 l1 0 _ (Kd.C_alloc HR1.out _) HC1.out HF.out).mono ?_; rintro e w1 ⟨rfl, hb⟩
  have hbx := hb.cell (p := ⟨w.heap.size, 0, none⟩) (by simp)
  have hx : w1.cell? ⟨w.heap.size, 0, none⟩ = some (.int .i64 a0) := hbx.trans (blk_cell (blk_new w _) 0)
  have hsz : w.heap.size < w1.heap.size := by have := hb.size; simp at this; omega
  have HB := Aside0.mk ((below_alloc (Below.refl _ w) (.cells #[.int .i64 a0] 3)).trans (hb.mono (by simp)))
  clear hb hbx
  go_wp2_with fail
  refine (containsFunc114 115 #[.pointer (some ⟨w.heap.size, 0, none⟩)] eg115 (fun x => !(decide (0 ≤ x.f0) && decide (x.f0 ≤ a0 - 1))) A2 c2 l2 _ ?hr ?hp).mono ?_
  case hr => exact Kd.C_below HR2.out HB.out
  case hp =>
    intro W x _ hbW
    exact lit115 x a0 (by omega) (by omega) w.heap.size W (by have := hbW.size; omega) ((hbW.cell (p := ⟨w.heap.size, 0, none⟩) hsz).trans hx)
  rintro e w2 ⟨rfl, hb2⟩
  have HB2 := Aside0.mk (HB.out.trans (hb2.mono HB.out.size))
  clear hx hsz HB hb2
  cases h1 : l2.any (fun x => !(decide (0 ≤ x.f0) && decide (x.f0 ≤ a0 - 1))) with
  | true =>
    have H1 := Aside0.mk h1
    clear h1
    go_wp2
    go_ret
    exact ⟨by rw [HQ.out, H1.out]; rfl, HB2.out⟩
  | false =>
    have H1 := Aside0.mk h1
    clear h1
    go_wp2_with fail
    refine (containsFunc114 116 #[] eg116 (fun x => x.f1 != 1 && x.f1 != -1) A2 c2 l2 _ ?hr ?hp).mono ?_
    case hr => exact Kd.C_below HR2.out HB2.out
    case hp =>
      intro W x _ hbW
      exact lit116 x W
    rintro e w3 ⟨rfl, hb3⟩
    have HB3 := Aside0.mk (HB2.out.trans (hb3.mono HB2.out.size))
    clear HB2 hb3
    cases h2 : l2.any (fun x => x.f1 != 1 && x.f1 != -1) with
    | true =>
      have H2 := Aside0.mk h2
      clear h2
      go_wp2
      go_ret
      exact ⟨by rw [HQ.out, H1.out, H2.out]; rfl, HB3.out⟩
    | false =>
      have H2 := Aside0.mk h2
      clear h2
      go_wp2
      go_ret
      exact ⟨by rw [HQ.out, H1.out, H2.out]; rfl, HB3.out⟩
end Go.Proofs.Ytdbeochifofdoaa.X
end

section
/-! The document's cased and CheckBad, and the program's. -/
namespace Go.Proofs.Ytdbeochifofdoaa.X
open Go.RowKit Go.Proofs.YtdbeochifofdoaaW.PrintWords Go.Proofs.YtdbeochifofdoaaW.PrintLast
set_option linter.unusedVariables false
set_option linter.unusedSimpArgs false

theorem rwithin_f (a b c : Int) : verditerref06_within.f a b c = some (decide (b ≤ a) && decide (a ≤ c)) := by
  unfold verditerref06_within.f
  by_cases h : a ≥ b
  · rw [if_pos h]; simp [h]
  · rw [if_neg h]; simp [show ¬ b ≤ a from h]
theorem cased_l1 (cs : List S35) (hl : cs.length < 9223372036854775807) : ∀ (d k i : Nat), i ≤ cs.length → cs.length - i = d → d < k →
    verditerref06_cased.l1 k cs i = some (if (cs.drop i).any (fun x => x.f1 != 1 && x.f1 != -1) = true then 1 else 0)
  | 0, k + 1, i, h1, h2, _ => by
    unfold verditerref06_cased.l1
    rw [if_neg (by omega), List.drop_eq_nil_of_le (by omega)]
    rfl
  | d + 1, k + 1, i, h1, h2, h3 => by
    unfold verditerref06_cased.l1
    have ih := cased_l1 cs hl d k (i + 1) (by omega) (by omega) (by omega)
    rw [if_pos (by omega), if_pos (by omega), show rd_T35 cs (i : Int) = cs.getD i z35 from rfl, dropD z35 cs i (by omega), List.any_cons, wrs i (by omega)]
    generalize cs.getD i z35 = x
    by_cases ha : x.f1 = 1
    · rw [if_pos ha, ih, ha]; rfl
    · rw [if_neg ha]
      by_cases hb : x.f1 = -1
      · rw [if_pos hb, ih, hb]; rfl
      · have e1 : (x.f1 != 1) = true := bne_iff_ne.mpr ha
        have e2 : (x.f1 != -1) = true := bne_iff_ne.mpr hb
        rw [if_neg hb, e1, e2]; rfl
theorem cased_l0 (lots : Int) (hlo : 1 ≤ lots ∧ lots ≤ 13) (cs : List S35) (hl : cs.length < 9223372036854775807) : ∀ (d k i : Nat), i ≤ cs.length → cs.length - i = d → d + cs.length + 1 < k →
    verditerref06_cased.l0 k lots cs i = some (if (cs.drop i).any (fun x => !(decide (0 ≤ x.f0) && decide (x.f0 ≤ lots - 1))) = true then 4 else if cs.any (fun x => x.f1 != 1 && x.f1 != -1) = true then 1 else 0)
  | 0, k + 1, i, h1, h2, h3 => by
    unfold verditerref06_cased.l0
    have h := cased_l1 cs hl cs.length k 0 (by omega) (by omega) (by omega)
    rw [show ((0 : Nat) : Int) = 0 from rfl] at h
    rw [if_neg (by omega), List.drop_eq_nil_of_le (by omega), h]
    rfl
  | d + 1, k + 1, i, h1, h2, h3 => by
    unfold verditerref06_cased.l0
    have ih := cased_l0 lots hlo cs hl d k (i + 1) (by omega) (by omega) (by omega)
    rw [if_pos (by omega), if_pos (by omega), show rd_T35 cs (i : Int) = cs.getD i z35 from rfl, dropD z35 cs i (by omega), List.any_cons, wrs i (by omega), rwithin_f, Option.bind_some, show wrap64 (lots - 1) = lots - 1 from wr_of (by omega) (by omega), ih]
    cases (decide (0 ≤ (cs.getD i z35).f0) && decide ((cs.getD i z35).f0 ≤ lots - 1)) <;> simp
theorem refCased_f (lots : Int) (l : List S53) (hm : l.length < 9223372036854775807) (hs : ∀ y, y ∈ l → y.f0.length ≤ 50 ∧ y.f1.length ≤ 50) (cs : List S35) (hc : cs.length ≤ 10) (k : Nat) (hk : 800 ≤ k) :
    verditerref06_cased.f k lots l cs = some (cErr lots l cs) := by
  unfold verditerref06_cased.f cErr
  rw [refValidate_f lots l hm hs k hk, Option.bind_some]
  by_cases hp : pErr lots l = 0
  · have ok := pErr_ok hp
    have h := cased_l0 lots ⟨ok.lo, ok.hi⟩ cs (by omega) cs.length k 0 (by omega) (by omega) (by omega)
    rw [show ((0 : Nat) : Int) = 0 from rfl] at h
    rw [if_pos hp, if_pos hp, h]
    rfl
  · rw [if_neg hp, if_neg hp]

/-- The answers to a case. -/
def ansB (l : List S53) (n w : Int) : List Int := (refMark l n).map fun y => wrap64 (w * y)
/-- Why two cases do not prove. -/
def chkB (lots : Int) (l : List S53) (c0 c1 d0 d1 : Int) : Int :=
  if cErr lots l [⟨c0, c1⟩, ⟨d0, d1⟩] = 0 then (if (if (c0 == d0 && c1 == d1) = true then (ansB l c0 c1).all (· == 0) else ansB l c0 c1 == ansB l d0 d1) = true then 0 else 7) else cErr lots l [⟨c0, c1⟩, ⟨d0, d1⟩]
theorem cErr_ok {lots : Int} {l : List S53} {cs : List S35} (h : cErr lots l cs = 0) : pErr lots l = 0 ∧ ∀ c, c ∈ cs → 0 ≤ c.f0 ∧ c.f0 < lots ∧ (c.f1 = 1 ∨ c.f1 = -1) := by
  unfold cErr at h
  by_cases hp : pErr lots l = 0
  · rw [if_pos hp] at h
    split at h
    · cases h
    rename_i h1
    split at h
    · cases h
    rename_i h2
    refine ⟨hp, fun c hc => ?_⟩
    simp only [List.any_eq_true, not_exists, not_and] at h1 h2
    have a1 := h1 c hc
    have a2 := h2 c hc
    simp only [Bool.not_eq_true', Bool.not_eq_false, Bool.and_eq_true, decide_eq_true_eq, bne_iff_ne, ne_eq, Bool.not_eq_true] at a1 a2
    refine ⟨by simpa using (by simpa using a1 : _ ∧ _).1, ?_, ?_⟩
    · have := (by simpa using a1 : 0 ≤ c.f0 ∧ c.f0 ≤ lots - 1).2; omega
    · by_cases q : c.f1 = 1
      · exact .inl q
      · right
        simpa [q] using a2
  · rw [if_neg hp] at h; exact absurd h hp
theorem refCheckBad_f (lots : Int) (l : List S53) (hm : l.length < 9223372036854775807) (hs : ∀ y, y ∈ l → y.f0.length ≤ 50 ∧ y.f1.length ≤ 50) (c0 c1 d0 d1 : Int) (k : Nat) (hk : 800 ≤ k) :
    verditerref06_CheckBad.f k lots l c0 c1 d0 d1 = some (chkB lots l c0 c1 d0 d1) := by
  unfold verditerref06_CheckBad.f chkB
  rw [refCased_f lots l hm hs _ (by simp) k hk, Option.bind_some]
  by_cases hp : cErr lots l [⟨c0, c1⟩, ⟨d0, d1⟩] = 0
  · have ok := (pErr_ok (cErr_ok hp).1).few
    have hlen : ∀ x, (refMark l x).length ≤ 3 := fun x => by unfold refMark; rw [List.length_map]; exact ok
    have hlen2 : ∀ x w, (ansB l x w).length ≤ 3 := fun x w => by unfold ansB; rw [List.length_map]; exact hlen x
    have m0 := mark_f l c0 k (by omega) hs (by omega)
    have m1 := mark_f l d0 k (by omega) hs (by omega)
    have t0 : verditerref06_times.f k (refMark l c0) c1 = some (ansB l c0 c1) := times_f _ _ k (by have := hlen c0; omega) (by have := hlen c0; omega)
    have t1 : verditerref06_times.f k (refMark l d0) d1 = some (ansB l d0 d1) := times_f _ _ k (by have := hlen d0; omega) (by have := hlen d0; omega)
    have s0 := same_f (ansB l c0 c1) (ansB l d0 d1) k (by have := hlen2 c0 c1; omega) (by have := hlen2 c0 c1; omega)
    have b0 := isBlank_f (ansB l c0 c1) k (by have := hlen2 c0 c1; omega) (by have := hlen2 c0 c1; omega)
    rw [if_pos hp, if_pos hp, m0, Option.bind_some, t0, Option.bind_some, m1, Option.bind_some, t1, Option.bind_some, s0, Option.bind_some, b0, Option.bind_some]
    generalize (ansB l c0 c1 == ansB l d0 d1) = u
    generalize (ansB l c0 c1).all (· == 0) = v
    cases (c0 == d0) <;> cases (c1 == d1) <;> cases u <;> cases v <;> rfl
  · rw [if_neg hp, if_neg hp]
end Go.Proofs.Ytdbeochifofdoaa.X
end

section
/-! A plan does not tell just if two cases prove it. -/
namespace Go.Proofs.Ytdbeochifofdoaa.X
open Go.RowKit Go.Proofs.YtdbeochifofdoaaW.PrintWords Go.Proofs.YtdbeochifofdoaaW.PrintLast
set_option linter.unusedVariables false
set_option linter.unusedSimpArgs false

theorem blank_iff (l : List S53) (n : Int) : (refMark l n).all (· == 0) = true ↔ ∀ y, y ∈ l → markOf n y = 0 := by
  unfold refMark
  rw [List.all_eq_true]
  constructor
  · intro h y hy
    have := h _ (List.mem_map.2 ⟨y, hy, rfl⟩)
    exact beq_iff_eq.1 this
  · intro h x hx
    obtain ⟨y, hy, rfl⟩ := List.mem_map.1 hx
    exact beq_iff_eq.2 (h y hy)
theorem map_iff {α : Type} (l : List α) (f g : α → Int) : (l.map f == l.map g) = true ↔ ∀ y, y ∈ l → f y = g y := by
  rw [beq_iff_eq]
  exact List.map_inj_left
theorem pair_iff (l : List S53) (i j : Nat) : pairB l i j = true ↔ (∀ y, y ∈ l → markOf i y = markOf j y) ∨ ∀ y, y ∈ l → markOf i y = - markOf j y := by
  unfold pairB
  rw [Bool.or_eq_true]
  unfold refMark
  rw [List.map_map, map_iff, map_iff]
  have : ∀ y, ((fun y => wrap64 (-1 * y)) ∘ markOf (j : Int)) y = - markOf j y := fun y => (wr_small (markOf_small _ _)).2.2
  constructor
  · rintro (h | h)
    · exact .inl h
    · exact .inr fun y hy => (h y hy).trans (this y)
  · rintro (h | h)
    · exact .inl h
    · exact .inr fun y hy => (h y hy).trans (this y).symm
theorem ans_map (l : List S53) (n w : Int) : ansB l n w = l.map fun y => wrap64 (w * markOf n y) := by
  unfold ansB refMark
  rw [List.map_map]
  rfl
/-- A case's answer at a weighing. -/
theorem ans_one {w : Int} (hw : w = 1 ∨ w = -1) (n : Int) (y : S53) : wrap64 (w * markOf n y) = w * markOf n y := by
  have := markOf_small n y
  rcases hw with rfl | rfl
  · exact wr_of (by omega) (by omega)
  · exact wr_of (by omega) (by omega)
theorem ansblank_iff (l : List S53) (n : Int) {w : Int} (hw : w = 1 ∨ w = -1) : (ansB l n w).all (· == 0) = true ↔ ∀ y, y ∈ l → markOf n y = 0 := by
  rw [ans_map, List.all_eq_true]
  constructor
  · intro h y hy
    have := beq_iff_eq.1 (h _ (List.mem_map.2 ⟨y, hy, rfl⟩))
    rw [ans_one hw] at this
    rcases hw with rfl | rfl <;> omega
  · intro h x hx
    obtain ⟨y, hy, rfl⟩ := List.mem_map.1 hx
    rw [ans_one hw, h y hy]
    simp
theorem anseq_iff (l : List S53) (n m : Int) {w v : Int} (hw : w = 1 ∨ w = -1) (hv : v = 1 ∨ v = -1) : (ansB l n w == ansB l m v) = true ↔ ∀ y, y ∈ l → w * markOf n y = v * markOf m y := by
  rw [ans_map, ans_map, map_iff]
  constructor
  · intro h y hy
    have := h y hy
    rwa [ans_one hw, ans_one hv] at this
  · intro h y hy
    rw [ans_one hw, ans_one hv]
    exact h y hy
/-- The plan does not tell: a blank mark, or two that are the same or opposite. -/
theorem telB_not (l : List S53) : ∀ (d i : Nat), telB l d i = false ↔ ∃ x, i ≤ x ∧ x < i + d ∧ ((refMark l x).all (· == 0) = true ∨ ∃ j, j < x ∧ pairB l x j = true)
  | 0, i => by
    constructor
    · intro h; cases h
    · rintro ⟨x, h1, h2, _⟩; omega
  | d + 1, i => by
    have ih := telB_not l d (i + 1)
    have hany : (List.range' 0 i).any (pairB l i) = true ↔ ∃ j, j < i ∧ pairB l i j = true := by
      rw [List.any_eq_true]
      constructor
      · rintro ⟨j, hj, h⟩
        exact ⟨j, by simpa [List.mem_range'] using hj, h⟩
      · rintro ⟨j, hj, h⟩
        exact ⟨j, by simpa [List.mem_range'] using hj, h⟩
    rw [telB_succ]
    by_cases hb : (refMark l i).all (· == 0) = true
    · rw [if_pos hb]
      exact ⟨fun _ => ⟨i, Nat.le_refl _, by omega, .inl hb⟩, fun _ => rfl⟩
    · rw [if_neg hb]
      by_cases hp : (List.range' 0 i).any (pairB l i) = true
      · rw [if_pos hp]
        exact ⟨fun _ => ⟨i, Nat.le_refl _, by omega, .inr (hany.1 hp)⟩, fun _ => rfl⟩
      · rw [if_neg hp, ih]
        constructor
        · rintro ⟨x, h1, h2, h⟩
          exact ⟨x, by omega, by omega, h⟩
        · rintro ⟨x, h1, h2, h⟩
          rcases Nat.lt_or_ge i x with hx | hx
          · exact ⟨x, by omega, by omega, h⟩
          · obtain rfl : x = i := by omega
            rcases h with h | h
            · exact absurd h hb
            · exact absurd (hany.2 h) hp
theorem pair_comm (l : List S53) (i j : Nat) : pairB l i j = true → pairB l j i = true := by
  rw [pair_iff, pair_iff]
  rintro (h | h)
  · exact .inl fun y hy => (h y hy).symm
  · exact .inr fun y hy => by have := h y hy; omega
/-- Two cases that prove: the plan does not tell. -/
theorem chk_tel {lots : Int} {l : List S53} {c0 c1 d0 d1 : Int} (h : chkB lots l c0 c1 d0 d1 = 0) : pErr lots l = 0 ∧ telB l lots.toNat 0 = false := by
  unfold chkB at h
  by_cases hc : cErr lots l [⟨c0, c1⟩, ⟨d0, d1⟩] = 0
  rotate_left
  · rw [if_neg hc] at h; exact absurd h hc
  rw [if_pos hc] at h
  obtain ⟨hp, hr⟩ := cErr_ok hc
  obtain ⟨a1, a2, a3⟩ := hr ⟨c0, c1⟩ (by simp)
  obtain ⟨b1, b2, b3⟩ := hr ⟨d0, d1⟩ (by simp)
  dsimp only at a1 a2 a3 b1 b2 b3
  obtain ⟨n, rfl⟩ := Int.eq_ofNat_of_zero_le a1
  obtain ⟨m, rfl⟩ := Int.eq_ofNat_of_zero_le b1
  refine ⟨hp, ?_⟩
  rw [telB_not]
  by_cases hs : ((n : Int) == (m : Int) && c1 == d1) = true
  · rw [if_pos hs] at h
    split at h
    rotate_left
    · cases h
    rename_i hb
    rw [ansblank_iff l n a3, ← blank_iff] at hb
    exact ⟨n, by omega, by omega, .inl hb⟩
  · rw [if_neg hs] at h
    split at h
    rotate_left
    · cases h
    rename_i hb
    rw [anseq_iff l n m a3 b3] at hb
    rcases Nat.lt_trichotomy n m with hnm | hnm | hnm
    · refine ⟨m, by omega, by omega, .inr ⟨n, hnm, ?_⟩⟩
      rw [pair_iff]
      rcases a3 with rfl | rfl <;> rcases b3 with rfl | rfl
      · exact .inl fun y hy => by have := hb y hy; omega
      · exact .inr fun y hy => by have := hb y hy; omega
      · exact .inr fun y hy => by have := hb y hy; omega
      · exact .inl fun y hy => by have := hb y hy; omega
    · subst hnm
      refine ⟨n, by omega, by omega, .inl ((blank_iff l n).2 fun y hy => ?_)⟩
      have := hb y hy
      rcases a3 with rfl | rfl <;> rcases b3 with rfl | rfl
      · simp at hs
      · omega
      · omega
      · simp at hs
    · refine ⟨n, by omega, by omega, .inr ⟨m, hnm, ?_⟩⟩
      rw [pair_iff]
      rcases a3 with rfl | rfl <;> rcases b3 with rfl | rfl
      · exact .inl fun y hy => by have := hb y hy; omega
      · exact .inr fun y hy => by have := hb y hy; omega
      · exact .inr fun y hy => by have := hb y hy; omega
      · exact .inl fun y hy => by have := hb y hy; omega
/-- What bad finds. -/
theorem badJ_some (m : S70) (i : Int) : ∀ (os : List S70) (j : Int) (r : Int × Int × Int × Int), badJ m i os j = some r → ∃ x w, x < os.length ∧ (w = 1 ∨ w = -1) ∧ eqTim (os.getD x z70) m w = true ∧ r = (j + x, 1, i, w)
  | o :: os, j, r, h => by
    rw [badJ] at h
    by_cases h1 : eqTim o m 1 = true
    · rw [if_pos h1] at h
      obtain rfl := Option.some.inj h
      exact ⟨0, 1, by simp, .inl rfl, h1, by simp⟩
    · rw [if_neg h1] at h
      by_cases h2 : eqTim o m (-1) = true
      · rw [if_pos h2] at h
        obtain rfl := Option.some.inj h
        exact ⟨0, -1, by simp, .inr rfl, h2, by simp⟩
      · rw [if_neg h2] at h
        obtain ⟨x, w, hx, hw, he, rfl⟩ := badJ_some m i os (j + 1) r h
        exact ⟨x + 1, w, by simpa using hx, hw, by simpa using he, by simp; omega⟩
theorem badI_some (l : List S53) (hl : l.length ≤ 3) (n : Nat) : ∀ (d i : Nat) (r : Int × Int × Int × Int), i + d = n →
    badI ((List.range n).map (mk3 l)) (((List.range n).map (mk3 l)).drop i) i = some r →
    ∃ x, x < n ∧ ((r = ((x : Int), 1, (x : Int), 1) ∧ (refMark l x).all (· == 0) = true) ∨ ∃ (j : Nat) (w : Int), j < x ∧ (w = 1 ∨ w = -1) ∧ eqTim (mk3 l j) (mk3 l x) w = true ∧ r = ((j : Int), 1, (x : Int), w))
  | 0, i, r, h, hr => by
    rw [List.drop_eq_nil_of_le (by simp; omega)] at hr
    cases hr
  | d + 1, i, r, h, hr => by
    have hd : ((List.range n).map (mk3 l)).drop i = mk3 l i :: ((List.range n).map (mk3 l)).drop (i + 1) := by
      rw [List.drop_eq_getElem_cons (by simp; omega)]
      simp
    have ht : (((List.range n).map (mk3 l)).take i) = (List.range i).map (mk3 l) := by
      rw [← List.map_take, List.take_range, Nat.min_eq_left (by omega)]
    rw [hd, badI, ht, isZ_mk l i hl] at hr
    by_cases hz : (refMark l i).all (· == 0) = true
    · rw [if_pos hz] at hr
      obtain rfl := Option.some.inj hr
      exact ⟨i, by omega, .inl ⟨rfl, hz⟩⟩
    · rw [if_neg hz] at hr
      cases hj : badJ (mk3 l i) i ((List.range i).map (mk3 l)) 0 with
      | none =>
        rw [hj] at hr
        exact badI_some l hl n d (i + 1) r (by omega) hr
      | some q =>
        rw [hj] at hr
        obtain rfl := Option.some.inj hr
        obtain ⟨x, w, hx, hw, he, rfl⟩ := badJ_some _ _ _ _ _ hj
        have hx' : x < i := by simpa using hx
        refine ⟨i, by omega, .inr ⟨x, w, hx', hw, ?_, by simp⟩⟩
        have : ((List.range i).map (mk3 l)).getD x z70 = mk3 l x := by simp [List.getD_eq_getElem?_getD, hx']
        rwa [this] at he
theorem eqTim_iff (l : List S53) (hl : l.length ≤ 3) (i j : Nat) {w : Int} (hw : w = 1 ∨ w = -1) : eqTim (mk3 l j) (mk3 l i) w = true → ∀ y, y ∈ l → markOf j y = w * markOf i y := by
  intro h y hy
  have hs := (wr_small (markOf_small j y)).2.2
  rcases hw with rfl | rfl
  · rw [eqTim_pos l hl] at h
    unfold refMark at h
    rw [map_iff] at h
    have := h y hy
    omega
  · rw [eqTim_neg l hl] at h
    unfold refMark at h
    rw [List.map_map, map_iff] at h
    have := h y hy
    have h2 : ((fun y => wrap64 (-1 * y)) ∘ markOf (j : Int)) y = - markOf j y := (wr_small (markOf_small _ _)).2.2
    rw [h2] at this
    omega
theorem cErr_mk {lots : Int} {l : List S53} (hp : pErr lots l = 0) {c0 c1 d0 d1 : Int} (h1 : 0 ≤ c0 ∧ c0 < lots) (h2 : c1 = 1 ∨ c1 = -1) (h3 : 0 ≤ d0 ∧ d0 < lots) (h4 : d1 = 1 ∨ d1 = -1) : cErr lots l [⟨c0, c1⟩, ⟨d0, d1⟩] = 0 := by
  unfold cErr
  rw [if_pos hp, if_neg, if_neg]
  · simp only [List.any_cons, List.any_nil, Bool.or_false]
    rcases h2 with rfl | rfl <;> rcases h4 with rfl | rfl <;> decide
  · simp only [List.any_cons, List.any_nil, Bool.or_false]
    simp
    omega
theorem bad_chk {lots : Int} {l : List S53} (hp : pErr lots l = 0) {r : Int × Int × Int × Int} (h : badI (marksL lots l) (marksL lots l) 0 = some r) : chkB lots l r.1 r.2.1 r.2.2.1 r.2.2.2 = 0 := by
  have ok := pErr_ok hp
  have hlo := ok.lo
  rw [marksL_mk lots l (okP_pos ok)] at h
  have h' := badI_some l ok.few lots.toNat lots.toNat 0 r (by omega) (by simpa using h)
  obtain ⟨x, hx, ⟨rfl, hb⟩ | ⟨j, w, hj, hw, he, rfl⟩⟩ := h'
  · dsimp only
    unfold chkB
    rw [if_pos (cErr_mk hp ⟨by omega, by omega⟩ (.inl rfl) ⟨by omega, by omega⟩ (.inl rfl)), if_pos (by simp : ((x : Int) == x && (1 : Int) == 1) = true), if_pos]
    exact (ansblank_iff l x (.inl rfl)).2 ((blank_iff l x).1 hb)
  · dsimp only
    unfold chkB
    have hne : ¬ ((j : Int) == (x : Int) && (1 : Int) == w) = true := by
      simp only [Bool.and_eq_true, beq_iff_eq]
      omega
    rw [if_pos (cErr_mk hp ⟨by omega, by omega⟩ (.inl rfl) ⟨by omega, by omega⟩ hw), if_neg hne, if_pos]
    rw [anseq_iff l j x (.inl rfl) hw]
    intro y hy
    have := eqTim_iff l ok.few x j hw he y hy
    omega
end Go.Proofs.Ytdbeochifofdoaa.X
end

section
/-! known, with more rounds. -/
namespace Go.Proofs.Ytdbeochifofdoaa.X
open Go.RowKit Go.Proofs.YtdbeochifofdoaaW.PrintWords Go.Proofs.YtdbeochifofdoaaW.PrintLast
theorem known_at : ∀ k, verditerlaw06_known.f (20 + k) = some true
  | 0 => verditerlaw06_known.is_true
  | k + 1 => verditerlaw06_known.mono (20 + k) _ (known_at k)
theorem known_k {k : Nat} (h : 20 ≤ k) : verditerlaw06_known.f k = some true := by
  have := known_at (k - 20)
  rwa [show 20 + (k - 20) = k by omega] at this
end Go.Proofs.Ytdbeochifofdoaa.X
end

section
namespace Go.Proofs.Ytdbeochifofdoaa.X
open Go.RowKit Go.Proofs.YtdbeochifofdoaaW.PrintWords Go.Proofs.YtdbeochifofdoaaW.PrintLast
theorem Bad_f (lots : Int) (l : List S53) : weigh_Bad.f lots l = some (if pErr lots l = 0 then
    ((badOut (badI (marksL lots l) (marksL lots l) 0)).1, (badOut (badI (marksL lots l) (marksL lots l) 0)).2.1, (badOut (badI (marksL lots l) (marksL lots l) 0)).2.2.1, (badOut (badI (marksL lots l) (marksL lots l) 0)).2.2.2.1, (badOut (badI (marksL lots l) (marksL lots l) 0)).2.2.2.2, 0) else (0, 0, 0, 0, false, pErr lots l)) := by
  unfold weigh_Bad.f weigh_Validate.f
  rw [Option.bind_some]
  by_cases hp : pErr lots l = 0
  · rw [if_pos hp, if_pos hp]
    unfold weigh_bad.f
    rw [if_pos hp, Option.bind_some]
  · rw [if_neg hp, if_neg hp]
end Go.Proofs.Ytdbeochifofdoaa.X
namespace Go.Proofs.Ytdbeochifofdoaa.Pure
open Go.RowKit Go.Proofs.Ytdbeochifofdoaa.X Go.Proofs.YtdbeochifofdoaaW.PrintWords Go.Proofs.YtdbeochifofdoaaW.PrintLast
theorem WeighBads (lots : Int) (l : List S53) (hl : l.length < 9223372036854775807) : ∃ k, verditerlaw06_weighBads.f k lots l = some true := by
  refine ⟨3000, ?_⟩
  have hk : verditerlaw06_known.f 2999 = some true := known_k (by omega)
  unfold verditerlaw06_weighBads.f
  rw [long_f l hl 3000 (by omega), Option.bind_some]
  cases hb : longB l with
  | true => rw [if_pos rfl, known_k (by omega)]; rfl
  | false =>
    have hs := (long_not hb).2
    rw [if_neg (by simp), refTells_f lots l hl hs 3000 (by omega), Option.bind_some, Bad_f, Option.bind_some]
    by_cases hp : pErr lots l = 0
    · simp only [if_pos hp]
      cases hq : badI (marksL lots l) (marksL lots l) 0 with
      | none =>
        have ht : telB l lots.toNat 0 = true := by rw [← badI_tel hp, hq]; rfl
        rw [ht]
        simp [badOut, verditerlaw06_weighBads.j0, hk]
      | some r =>
        have ht : telB l lots.toNat 0 = false := by rw [← badI_tel hp, hq]; rfl
        have hc := bad_chk hp hq
        obtain ⟨a, b, c, d⟩ := r
        rw [ht]
        have e : verditerref06_CheckBad.f 2999 lots l a b c d = some 0 := by rw [refCheckBad_f lots l hl hs a b c d 2999 (by omega), hc]
        simp [badOut, verditerlaw06_weighBads.j0, hk, e]
    · simp only [if_neg hp]
      simp [verditerlaw06_weighBads.j0, hk]
end Go.Proofs.Ytdbeochifofdoaa.Pure
end

section
/-! The row of the law WeighBads (after the rows that print.py writes). -/
namespace Go.Proofs.Ytdbeochifofdoaa.weighBads
open Go.ChangeShapes Go.WideShapes Go.ChangeAt Go.RowKit
open Go.ChangeMaps (open_string shut_string)
set_option linter.unusedVariables false
theorem own : ownKnob Try.prog.godebug = none := by kernel_rfl
theorem laidOut : laidOutB Try.prog = true := by kernel_rfl
set_option maxRecDepth 100000 in
theorem lifted (os : Os) (started : os.Started) (H : Type) (enc : TypeId × Value → H) :
    ReturnsInHanded {} Try.checked os 4 .any (Rows.weighBadsSpec.pre6 enc Try.prog Try.f4 Rows.weighBadsRow.domain false) (Rows.weighBadsSpec.post enc Try.prog Try.f4 false true false false) := by
  refine returnsInHanded_of_change_sized (C := Try.checked) own started (by kernel_rfl) Try.func4
    (ChangeSpec.witness6 (enc := enc) (C := Try.checked) false ⟨#[], #[.int .i64 0, .slice none 0 0], []⟩ 8 (by kernel_rfl) (by kernel_rfl) (by kernel_rfl) (by kernel_rfl)) ?_
  intro W base args ds gs before hval0 hW hcnd hsz0 _
  have hsz : (DataW.weightsEach Try.prog (Try.f4.params.toList ++ Rows.weighBadsSpec.plain.varTypes Try.prog) (ds ++ gs)).all (· ≤ reachBytes) = true := hsz0
  have hval : ∀ (j : Nat) t v, Try.f4.params[j]? = some t → args[j]? = some v → Value.okWide Try.prog W .any base t v := hval0
  have hW' := hW
  obtain ⟨p, q, hA0, hV, rfl, hfz, hnd⟩ := hW
  have hA : DataW.TrodAll enc Try.prog W 0 (fun _ => true) true Try.f4.params.toList args.toList ds p := hA0
  rw [Try.params4] at hA hval hsz
  obtain ⟨v0, vs0, d0, ds0, p0, q0, hargs, rfl, rfl, h0, r0⟩ := trodAll_cons hA
  obtain ⟨v1, vs1, d1, ds1, p1, q1, rfl, rfl, rfl, h1, r1⟩ := trodAll_cons r0
  obtain ⟨rfl, rfl, rfl⟩ := trodAll_nil r1
  obtain rfl : args = #[v0, v1] := by cases args; simp_all
  obtain ⟨rfl, rfl⟩ := trodVars_none hV
  obtain ⟨a0, rfl, rfl, rfl, w0⟩ := open_int Try.underlying3 (hval 0 3 v0 rfl rfl) h0
  obtain ⟨a1, len1, cap1, rfl⟩ := okWide_slice Try.underlying22 (hval 1 22 v1 rfl rfl)
  have k1 := h1
  have lt1 : ∀ x ∈ p1, x.block < W.heap.size := by obtain ⟨m, hm⟩ := k1; exact DataW.trod_lt m _ _ _ hm
  obtain ⟨A, l, ys, e1, hle, hyl, hC, hF, hys, hl⟩ := X.open_plan h1 rfl (fun n hn => by
    have := List.all_eq_true.1 hsz n (DataW.weights_mem_each (j := 1) (t := 22) (d := d1) rfl rfl n hn)
    simpa using this)
  obtain ⟨rfl, rfl, rfl⟩ : a1 = A ∧ len1 = l.length ∧ cap1 = ys.length := by injection e1 with h1 h2 h3; exact ⟨h1, h2, h3⟩
  clear hA0 hval0 hsz0 hsz
  obtain ⟨k, hk⟩ := Pure.WeighBads a0 l (by omega)
  refine (X.weighBads_calls k a0 a1 l ys W hC hle hF hyl hys hk).mono fun e W' ⟨he, bel⟩ => ?_
  subst he
  exact ⟨_, rfl, _, _, _, [], _, [], hW', trodAll_mk1 (shut_bool Try.underlying4 _), (trodAll_cons_mk (shut_int Try.underlying3 w0) (trodAll_cons_mk (Below.trod laidOut (by kernel_rfl) (of_decide_eq_true (by kernel_rfl)) k1 bel lt1) trodAll_mk0)), rfl, bel.frame _, fun h => by cases h⟩
theorem over : Rows.weighBadsRow.holds Try.pinned (OpenSpec.ofChange Rows.weighBadsSpec) :=
  OpenClaim.holds_of_wide 4 Try.f4 rfl rfl rfl rfl rfl rfl rfl ⟨rfl, rfl, rfl, rfl, rfl⟩ rfl rfl rfl rfl rfl (by kernel_rfl) Try.func4 (by kernel_rfl)
    (of_decide_eq_true (by kernel_rfl)) (by unfold Func.isWrapper; first | (rw [if_pos (by decide +kernel)]; kernel_rfl) | (rw [if_neg (by decide +kernel)]; exact ⟨rfl, rfl⟩))
    (fun os started H enc _ => lifted os started H enc)
theorem proved : Rows.WeighBadsSaid := over
end Go.Proofs.Ytdbeochifofdoaa.weighBads
namespace Go.Proofs.Ytdbeochifofdoaa
/-- The row, under a short name, for the claim. -/
theorem weighBads_holds : Rows.WeighBadsSaid := weighBads.proved
end Go.Proofs.Ytdbeochifofdoaa
end
