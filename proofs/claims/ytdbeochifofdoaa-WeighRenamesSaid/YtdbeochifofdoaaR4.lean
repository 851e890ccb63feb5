/- Rename gives the lots other numbers, for all plans and lists, and the plan tells as well.
Its conditions: none beyond the statement's own. Part 5 of 5 of the proof. -/
import Derived.Deep.RegionHeld3
import Derived.Laws.CopyOwn
import Derived.Maps.Own
import Derived.DeepKeys4
import Derived.Test.YtdbeochifofdoaaRows
import Derived.WalkKit
import Derived.ProofKit
import Derived.OpenShut
import Derived.ShutString
import Derived.ChangeOld
import Derived.Below
import Derived.Carry
import Derived.SizedLaws
import Derived.Test.YtdbeochifofdoaaRz0
import Derived.Test.YtdbeochifofdoaaR3
section
/-! A plan does not tell just if two cases prove it. -/
namespace Go.Proofs.Ytdbeochifofdoaa.X
open Go.RowKit Go.Proofs.YtdbeochifofdoaaW.PrintWords Go.Proofs.YtdbeochifofdoaaW.PrintLast
set_option linter.unusedVariables false
set_option linter.unusedSimpArgs false

theorem blank_iff (l : List S53) (n : Int) : (refMark l n).all (· == 0) = true ↔ ∀ y, y ∈ l → markOf n y = 0 := by
  unfold refMark
  rw [List.all_eq_true]
  constructor
  · intro h y hy
    have := h _ (List.mem_map.2 ⟨y, hy, rfl⟩)
    exact beq_iff_eq.1 this
  · intro h x hx
    obtain ⟨y, hy, rfl⟩ := List.mem_map.1 hx
    exact beq_iff_eq.2 (h y hy)
theorem map_iff {α : Type} (l : List α) (f g : α → Int) : (l.map f == l.map g) = true ↔ ∀ y, y ∈ l → f y = g y := by
  rw [beq_iff_eq]
  exact List.map_inj_left
theorem pair_iff (l : List S53) (i j : Nat) : pairB l i j = true ↔ (∀ y, y ∈ l → markOf i y = markOf j y) ∨ ∀ y, y ∈ l → markOf i y = - markOf j y := by
  unfold pairB
  rw [Bool.or_eq_true]
  unfold refMark
  rw [List.map_map, map_iff, map_iff]
  have : ∀ y, ((fun y => wrap64 (-1 * y)) ∘ markOf (j : Int)) y = - markOf j y := fun y => (wr_small (markOf_small _ _)).2.2
  constructor
  · rintro (h | h)
    · exact .inl h
    · exact .inr fun y hy => (h y hy).trans (this y)
  · rintro (h | h)
    · exact .inl h
    · exact .inr fun y hy => (h y hy).trans (this y).symm
theorem ans_map (l : List S53) (n w : Int) : ansB l n w = l.map fun y => wrap64 (w * markOf n y) := by
  unfold ansB refMark
  rw [List.map_map]
  rfl
/-- A case's answer at a weighing. -/
theorem ans_one {w : Int} (hw : w = 1 ∨ w = -1) (n : Int) (y : S53) : wrap64 (w * markOf n y) = w * markOf n y := by
  have := markOf_small n y
  rcases hw with rfl | rfl
  · exact wr_of (by omega) (by omega)
  · exact wr_of (by omega) (by omega)
theorem ansblank_iff (l : List S53) (n : Int) {w : Int} (hw : w = 1 ∨ w = -1) : (ansB l n w).all (· == 0) = true ↔ ∀ y, y ∈ l → markOf n y = 0 := by
  rw [ans_map, List.all_eq_true]
  constructor
  · intro h y hy
    have := beq_iff_eq.1 (h _ (List.mem_map.2 ⟨y, hy, rfl⟩))
    rw [ans_one hw] at this
    rcases hw with rfl | rfl <;> omega
  · intro h x hx
    obtain ⟨y, hy, rfl⟩ := List.mem_map.1 hx
    rw [ans_one hw, h y hy]
    simp
theorem anseq_iff (l : List S53) (n m : Int) {w v : Int} (hw : w = 1 ∨ w = -1) (hv : v = 1 ∨ v = -1) : (ansB l n w == ansB l m v) = true ↔ ∀ y, y ∈ l → w * markOf n y = v * markOf m y := by
  rw [ans_map, ans_map, map_iff]
  constructor
  · intro h y hy
    have := h y hy
    rwa [ans_one hw, ans_one hv] at this
  · intro h y hy
    rw [ans_one hw, ans_one hv]
    exact h y hy
/-- The plan does not tell: a blank mark, or two that are the same or opposite. -/
theorem telB_not (l : List S53) : ∀ (d i : Nat), telB l d i = false ↔ ∃ x, i ≤ x ∧ x < i + d ∧ ((refMark l x).all (· == 0) = true ∨ ∃ j, j < x ∧ pairB l x j = true)
  | 0, i => by
    constructor
    · intro h; cases h
    · rintro ⟨x, h1, h2, _⟩; omega
  | d + 1, i => by
    have ih := telB_not l d (i + 1)
    have hany : (List.range' 0 i).any (pairB l i) = true ↔ ∃ j, j < i ∧ pairB l i j = true := by
      rw [List.any_eq_true]
      constructor
      · rintro ⟨j, hj, h⟩
        exact ⟨j, by simpa [List.mem_range'] using hj, h⟩
      · rintro ⟨j, hj, h⟩
        exact ⟨j, by simpa [List.mem_range'] using hj, h⟩
    rw [telB_succ]
    by_cases hb : (refMark l i).all (· == 0) = true
    · rw [if_pos hb]
      exact ⟨fun _ => ⟨i, Nat.le_refl _, by omega, .inl hb⟩, fun _ => rfl⟩
    · rw [if_neg hb]
      by_cases hp : (List.range' 0 i).any (pairB l i) = true
      · rw [if_pos hp]
        exact ⟨fun _ => ⟨i, Nat.le_refl _, by omega, .inr (hany.1 hp)⟩, fun _ => rfl⟩
      · rw [if_neg hp, ih]
        constructor
        · rintro ⟨x, h1, h2, h⟩
          exact ⟨x, by omega, by omega, h⟩
        · rintro ⟨x, h1, h2, h⟩
          rcases Nat.lt_or_ge i x with hx | hx
          · exact ⟨x, by omega, by omega, h⟩
          · obtain rfl : x = i := by omega
            rcases h with h | h
            · exact absurd h hb
            · exact absurd (hany.2 h) hp
/-- Two cases that prove: the plan does not tell. -/
theorem chk_tel {lots : Int} {l : List S53} {c0 c1 d0 d1 : Int} (h : chkB lots l c0 c1 d0 d1 = 0) : pErr lots l = 0 ∧ telB l lots.toNat 0 = false := by
  unfold chkB at h
  by_cases hc : cErr lots l [⟨c0, c1⟩, ⟨d0, d1⟩] = 0
  rotate_left
  · rw [if_neg hc] at h; exact absurd h hc
  rw [if_pos hc] at h
  obtain ⟨hp, hr⟩ := cErr_ok hc
  obtain ⟨a1, a2, a3⟩ := hr ⟨c0, c1⟩ (by simp)
  obtain ⟨b1, b2, b3⟩ := hr ⟨d0, d1⟩ (by simp)
  dsimp only at a1 a2 a3 b1 b2 b3
  obtain ⟨n, rfl⟩ := Int.eq_ofNat_of_zero_le a1
  obtain ⟨m, rfl⟩ := Int.eq_ofNat_of_zero_le b1
  refine ⟨hp, ?_⟩
  rw [telB_not]
  by_cases hs : ((n : Int) == (m : Int) && c1 == d1) = true
  · rw [if_pos hs] at h
    split at h
    rotate_left
    · cases h
    rename_i hb
    rw [ansblank_iff l n a3, ← blank_iff] at hb
    exact ⟨n, by omega, by omega, .inl hb⟩
  · rw [if_neg hs] at h
    split at h
    rotate_left
    · cases h
    rename_i hb
    rw [anseq_iff l n m a3 b3] at hb
    rcases Nat.lt_trichotomy n m with hnm | hnm | hnm
    · refine ⟨m, by omega, by omega, .inr ⟨n, hnm, ?_⟩⟩
      rw [pair_iff]
      rcases a3 with rfl | rfl <;> rcases b3 with rfl | rfl
      · exact .inl fun y hy => by have := hb y hy; omega
      · exact .inr fun y hy => by have := hb y hy; omega
      · exact .inr fun y hy => by have := hb y hy; omega
      · exact .inl fun y hy => by have := hb y hy; omega
    · subst hnm
      refine ⟨n, by omega, by omega, .inl ((blank_iff l n).2 fun y hy => ?_)⟩
      have := hb y hy
      rcases a3 with rfl | rfl <;> rcases b3 with rfl | rfl
      · simp at hs
      · omega
      · omega
      · simp at hs
    · refine ⟨n, by omega, by omega, .inr ⟨m, hnm, ?_⟩⟩
      rw [pair_iff]
      rcases a3 with rfl | rfl <;> rcases b3 with rfl | rfl
      · exact .inl fun y hy => by have := hb y hy; omega
      · exact .inr fun y hy => by have := hb y hy; omega
      · exact .inr fun y hy => by have := hb y hy; omega
      · exact .inl fun y hy => by have := hb y hy; omega
/-- What bad finds. -/
theorem badJ_some (m : S70) (i : Int) : ∀ (os : List S70) (j : Int) (r : Int × Int × Int × Int), badJ m i os j = some r → ∃ x w, x < os.length ∧ (w = 1 ∨ w = -1) ∧ eqTim (os.getD x z70) m w = true ∧ r = (j + x, 1, i, w)
  | o :: os, j, r, h => by
    rw [badJ] at h
    by_cases h1 : eqTim o m 1 = true
    · rw [if_pos h1] at h
      obtain rfl := Option.some.inj h
      exact ⟨0, 1, by simp, .inl rfl, h1, by simp⟩
    · rw [if_neg h1] at h
      by_cases h2 : eqTim o m (-1) = true
      · rw [if_pos h2] at h
        obtain rfl := Option.some.inj h
        exact ⟨0, -1, by simp, .inr rfl, h2, by simp⟩
      · rw [if_neg h2] at h
        obtain ⟨x, w, hx, hw, he, rfl⟩ := badJ_some m i os (j + 1) r h
        exact ⟨x + 1, w, by simpa using hx, hw, by simpa using he, by simp; omega⟩
theorem badI_some (l : List S53) (hl : l.length ≤ 3) (n : Nat) : ∀ (d i : Nat) (r : Int × Int × Int × Int), i + d = n →
    badI ((List.range n).map (mk3 l)) (((List.range n).map (mk3 l)).drop i) i = some r →
    ∃ x, x < n ∧ ((r = ((x : Int), 1, (x : Int), 1) ∧ (refMark l x).all (· == 0) = true) ∨ ∃ (j : Nat) (w : Int), j < x ∧ (w = 1 ∨ w = -1) ∧ eqTim (mk3 l j) (mk3 l x) w = true ∧ r = ((j : Int), 1, (x : Int), w))
  | 0, i, r, h, hr => by
    rw [List.drop_eq_nil_of_le (by simp; omega)] at hr
    cases hr
  | d + 1, i, r, h, hr => by
    have hd : ((List.range n).map (mk3 l)).drop i = mk3 l i :: ((List.range n).map (mk3 l)).drop (i + 1) := by
      rw [List.drop_eq_getElem_cons (by simp; omega)]
      simp
    have ht : (((List.range n).map (mk3 l)).take i) = (List.range i).map (mk3 l) := by
      rw [← List.map_take, List.take_range, Nat.min_eq_left (by omega)]
    rw [hd, badI, ht, isZ_mk l i hl] at hr
    by_cases hz : (refMark l i).all (· == 0) = true
    · rw [if_pos hz] at hr
      obtain rfl := Option.some.inj hr
      exact ⟨i, by omega, .inl ⟨rfl, hz⟩⟩
    · rw [if_neg hz] at hr
      cases hj : badJ (mk3 l i) i ((List.range i).map (mk3 l)) 0 with
      | none =>
        rw [hj] at hr
        exact badI_some l hl n d (i + 1) r (by omega) hr
      | some q =>
        rw [hj] at hr
        obtain rfl := Option.some.inj hr
        obtain ⟨x, w, hx, hw, he, rfl⟩ := badJ_some _ _ _ _ _ hj
        have hx' : x < i := by simpa using hx
        refine ⟨i, by omega, .inr ⟨x, w, hx', hw, ?_, by simp⟩⟩
        have : ((List.range i).map (mk3 l)).getD x z70 = mk3 l x := by simp [List.getD_eq_getElem?_getD, hx']
        rwa [this] at he
theorem eqTim_iff (l : List S53) (hl : l.length ≤ 3) (i j : Nat) {w : Int} (hw : w = 1 ∨ w = -1) : eqTim (mk3 l j) (mk3 l i) w = true → ∀ y, y ∈ l → markOf j y = w * markOf i y := by
  intro h y hy
  have hs := (wr_small (markOf_small j y)).2.2
  rcases hw with rfl | rfl
  · rw [eqTim_pos l hl] at h
    unfold refMark at h
    rw [map_iff] at h
    have := h y hy
    omega
  · rw [eqTim_neg l hl] at h
    unfold refMark at h
    rw [List.map_map, map_iff] at h
    have := h y hy
    have h2 : ((fun y => wrap64 (-1 * y)) ∘ markOf (j : Int)) y = - markOf j y := (wr_small (markOf_small _ _)).2.2
    rw [h2] at this
    omega
theorem cErr_mk {lots : Int} {l : List S53} (hp : pErr lots l = 0) {c0 c1 d0 d1 : Int} (h1 : 0 ≤ c0 ∧ c0 < lots) (h2 : c1 = 1 ∨ c1 = -1) (h3 : 0 ≤ d0 ∧ d0 < lots) (h4 : d1 = 1 ∨ d1 = -1) : cErr lots l [⟨c0, c1⟩, ⟨d0, d1⟩] = 0 := by
  unfold cErr
  rw [if_pos hp, if_neg, if_neg]
  · simp only [List.any_cons, List.any_nil, Bool.or_false]
    rcases h2 with rfl | rfl <;> rcases h4 with rfl | rfl <;> decide
  · simp only [List.any_cons, List.any_nil, Bool.or_false]
    simp
    omega
theorem bad_chk {lots : Int} {l : List S53} (hp : pErr lots l = 0) {r : Int × Int × Int × Int} (h : badI (marksL lots l) (marksL lots l) 0 = some r) : chkB lots l r.1 r.2.1 r.2.2.1 r.2.2.2 = 0 := by
  have ok := pErr_ok hp
  have hlo := ok.lo
  rw [marksL_mk lots l (okP_pos ok)] at h
  have h' := badI_some l ok.few lots.toNat lots.toNat 0 r (by omega) (by simpa using h)
  obtain ⟨x, hx, ⟨rfl, hb⟩ | ⟨j, w, hj, hw, he, rfl⟩⟩ := h'
  · dsimp only
    unfold chkB
    rw [if_pos (cErr_mk hp ⟨by omega, by omega⟩ (.inl rfl) ⟨by omega, by omega⟩ (.inl rfl)), if_pos (by simp : ((x : Int) == x && (1 : Int) == 1) = true), if_pos]
    exact (ansblank_iff l x (.inl rfl)).2 ((blank_iff l x).1 hb)
  · dsimp only
    unfold chkB
    have hne : ¬ ((j : Int) == (x : Int) && (1 : Int) == w) = true := by
      simp only [Bool.and_eq_true, beq_iff_eq]
      omega
    rw [if_pos (cErr_mk hp ⟨by omega, by omega⟩ (.inl rfl) ⟨by omega, by omega⟩ hw), if_neg hne, if_pos]
    rw [anseq_iff l j x (.inl rfl) hw]
    intro y hy
    have := eqTim_iff l ok.few x j hw he y hy
    omega
end Go.Proofs.Ytdbeochifofdoaa.X
end

section
/-! The program's Answers, and the document's. -/
namespace Go.Proofs.Ytdbeochifofdoaa.X
open Go.RowKit Go.Proofs.YtdbeochifofdoaaW.PrintWords Go.Proofs.YtdbeochifofdoaaW.PrintLast
set_option linter.unusedVariables false
set_option linter.unusedSimpArgs false

theorem ans_len (l : List S53) (n w : Int) : (ansB l n w).length = l.length := by simp [ansB, refMark]
end Go.Proofs.Ytdbeochifofdoaa.X
end

section
/-! weigh.Cases. -/
namespace Go.Proofs.Ytdbeochifofdoaa.X
open Go.RowKit Go.Proofs.YtdbeochifofdoaaW.PrintWords Go.Proofs.YtdbeochifofdoaaW.PrintLast Go.Proofs.YtdbeochifofdoaaW.PrintMore
set_option linter.unusedVariables false
set_option linter.unusedSimpArgs false
attribute [local go_sem high] eqA70

/-- All cases. -/
def casesL (lots : Int) : List S35 := (List.range lots.toNat).flatMap fun (n : Nat) => ([⟨(n : Int), -1⟩, ⟨(n : Int), 1⟩] : List S35)
instance decS35 : DecidableEq S35 := fun a b => decidable_of_iff (a.f0 = b.f0 ∧ a.f1 = b.f1) (by cases a; cases b; simp)
theorem casesL_mem {lots : Int} {c : S35} (h : c ∈ casesL lots) : 0 ≤ c.f0 ∧ c.f0.toNat < lots.toNat := by
  unfold casesL at h
  rw [List.mem_flatMap] at h
  obtain ⟨n, hn, hc⟩ := h
  rw [List.mem_range] at hn
  simp only [List.mem_cons, List.not_mem_nil, or_false] at hc
  rcases hc with rfl | rfl <;> exact ⟨by simp, by simpa using hn⟩
theorem casesL_len (lots : Int) : (casesL lots).length = 2 * lots.toNat := by
  unfold casesL
  induction lots.toNat with
  | zero => rfl
  | succ n ih => rw [List.range_succ, List.flatMap_append, List.length_append, ih]; simp; omega
end Go.Proofs.Ytdbeochifofdoaa.X
end

section
/-! weigh.Possible: a set of marks, a map keyed by arrays. -/
namespace Go.Proofs.Ytdbeochifofdoaa.X
open Go.ChangeMaps Go.RowKit Go.Proofs.YtdbeochifofdoaaW.PrintWords Go.Proofs.YtdbeochifofdoaaW.PrintLast Go.Proofs.YtdbeochifofdoaaW.PrintMore
set_option linter.unusedVariables false
set_option linter.unusedSimpArgs false

instance decS70 : DecidableEq S70 := fun a b => decidable_of_iff (a.f0 = b.f0 ∧ a.f1 = b.f1 ∧ a.f2 = b.f2) (by cases a; cases b; simp)
end Go.Proofs.Ytdbeochifofdoaa.X
end

section
/-! How many answers there can be: the program's set, and the document's. -/
namespace Go.Proofs.Ytdbeochifofdoaa.X
open Go.RowKit Go.Proofs.YtdbeochifofdoaaW.PrintWords Go.Proofs.YtdbeochifofdoaaW.PrintLast
set_option linter.unusedVariables false
set_option linter.unusedSimpArgs false

/-- Put at the end if it is new. -/
def putL (ks : List (List Int)) (a : List Int) : List (List Int) := if a ∈ ks then ks else ks ++ [a]
/-- The marks that are found, as the document has them. -/
def foundR (lots : Int) (l : List S53) : List (List Int) := (casesL lots).foldl (fun ks c => putL ks (ansB l c.f0 c.f1)) [ansB l 0 0]
theorem ans_zero (l : List S53) (n : Int) : ansB l n 0 = List.replicate l.length 0 := by
  rw [ans_map]
  have h : ∀ y : S53, wrap64 (0 * markOf n y) = 0 := fun y => by rw [Int.zero_mul, wr_of (by omega) (by omega)]
  simp only [h]
  exact List.map_const' ..
theorem fold_len : ∀ (As ks : List (List Int)), ks.Nodup → (As.foldl putL ks).length ≤ ks.length + As.length ∧ ((As.foldl putL ks).length = ks.length + As.length ↔ (ks ++ As).Nodup)
  | [], ks, hn => by simpa using hn
  | a :: As, ks, hn => by
    rw [List.foldl_cons]
    by_cases h : a ∈ ks
    · have hp : putL ks a = ks := by unfold putL; rw [if_pos h]
      have ih := (fold_len As ks hn).1
      rw [hp, List.length_cons]
      refine ⟨by omega, fun h2 => by omega, fun h2 => ?_⟩
      rw [List.nodup_append] at h2
      exact absurd rfl (h2.2.2 a h a List.mem_cons_self)
    · have hp : putL ks a = ks ++ [a] := by unfold putL; rw [if_neg h]
      have hn2 : (ks ++ [a]).Nodup := by
        rw [List.nodup_append]
        exact ⟨hn, by simp, fun x hx y hy => by rw [List.mem_singleton.1 hy]; rintro rfl; exact h hx⟩
      have ih := fold_len As (ks ++ [a]) hn2
      rw [hp, List.length_cons]
      rw [List.length_append, List.length_singleton, List.append_assoc, List.singleton_append] at ih
      exact ⟨by omega, by rw [← ih.2]; omega⟩
theorem nodup_map_inj {α β : Type} {f : α → β} : ∀ {l : List α}, (l.map f).Nodup → ∀ a, a ∈ l → ∀ b, b ∈ l → f a = f b → a = b
  | x :: xs, h, a, ha, b, hb, e => by
    rw [List.map_cons, List.nodup_cons] at h
    rcases List.mem_cons.1 ha with ea | ha2
    · rcases List.mem_cons.1 hb with eb | hb2
      · rw [ea, eb]
      · exact absurd (List.mem_map.2 ⟨b, hb2, by rw [← e, ea]⟩) h.1
    · rcases List.mem_cons.1 hb with eb | hb2
      · exact absurd (List.mem_map.2 ⟨a, ha2, by rw [e, eb]⟩) h.1
      · exact nodup_map_inj h.2 a ha2 b hb2 e
set_option maxRecDepth 100000 in
theorem cases_nodup : ∀ n, n < 13 → (casesL ((n + 1 : Nat) : Int)).Nodup := by decide +kernel
theorem mem_cases {lots c0 c1 : Int} (h0 : 0 ≤ c0) (h1 : c0 < lots) (hw : c1 = 1 ∨ c1 = -1) : (⟨c0, c1⟩ : S35) ∈ casesL lots := by
  obtain ⟨n, rfl⟩ := Int.eq_ofNat_of_zero_le h0
  unfold casesL
  rw [List.mem_flatMap]
  refine ⟨n, by rw [List.mem_range]; omega, ?_⟩
  rcases hw with rfl | rfl <;> simp
theorem cases_way {lots : Int} {c : S35} (h : c ∈ casesL lots) : c.f1 = 1 ∨ c.f1 = -1 := by
  unfold casesL at h
  rw [List.mem_flatMap] at h
  obtain ⟨n, hn, hc⟩ := h
  simp only [List.mem_cons, List.not_mem_nil, or_false] at hc
  rcases hc with rfl | rfl
  · exact .inr rfl
  · exact .inl rfl
theorem all_zero (l : List S53) (n w : Int) : (ansB l n w).all (· == 0) = true ↔ ansB l n w = ansB l 0 0 := by
  rw [ans_zero]
  rw [List.all_eq_true]
  constructor
  · intro h
    rw [List.eq_replicate_iff]
    exact ⟨ans_len l n w, fun x hx => by simpa using h x hx⟩
  · intro h x hx
    rw [h] at hx
    rw [List.eq_of_mem_replicate hx]
    rfl
theorem found_tel {lots : Int} {l : List S53} (hp : pErr lots l = 0) : telB l lots.toNat 0 = (((foundR lots l).length : Int) == 2 * lots + 1) := by
  have ok := pErr_ok hp
  have hlo := ok.lo
  have hhi := ok.hi
  have hn : (casesL lots).Nodup := by
    obtain ⟨n, rfl⟩ := Int.eq_ofNat_of_zero_le (show 0 ≤ lots by omega)
    have := cases_nodup (n - 1) (by omega)
    rwa [show n - 1 + 1 = n by omega] at this
  have hfold : foundR lots l = ((casesL lots).map fun c => ansB l c.f0 c.f1).foldl putL [ansB l 0 0] := by
    unfold foundR
    rw [List.foldl_map]
  have hF := fold_len ((casesL lots).map fun c => ansB l c.f0 c.f1) [ansB l 0 0] (by simp)
  rw [← hfold, List.length_map, casesL_len, List.length_singleton, List.singleton_append, List.nodup_cons] at hF
  have hlen : ((foundR lots l).length = 1 + 2 * lots.toNat) ↔ (((foundR lots l).length : Int) == 2 * lots + 1) = true := by
    rw [beq_iff_eq]
    omega
  rw [Bool.eq_iff_iff, ← hlen, hF.2]
  constructor
  · intro ht
    have hchk : ∀ c0 c1 d0 d1 : Int, chkB lots l c0 c1 d0 d1 ≠ 0 := by
      intro c0 c1 d0 d1 h
      have := (chk_tel h).2
      rw [ht] at this
      cases this
    constructor
    · intro hm
      obtain ⟨c, hc, he⟩ := List.mem_map.1 hm
      obtain ⟨x0, x1⟩ := casesL_mem hc
      refine hchk c.f0 c.f1 c.f0 c.f1 ?_
      unfold chkB
      rw [if_pos (cErr_mk hp ⟨x0, by omega⟩ (cases_way hc) ⟨x0, by omega⟩ (cases_way hc)), if_pos (by simp : (c.f0 == c.f0 && c.f1 == c.f1) = true), if_pos ((all_zero l c.f0 c.f1).2 he)]
    · unfold List.Nodup
      rw [List.pairwise_map]
      refine List.Pairwise.imp_of_mem ?_ hn
      intro c d hc hd hne he
      obtain ⟨x0, x1⟩ := casesL_mem hc
      obtain ⟨y0, y1⟩ := casesL_mem hd
      refine hchk c.f0 c.f1 d.f0 d.f1 ?_
      have hne2 : ¬ (c.f0 == d.f0 && c.f1 == d.f1) = true := by
        intro h
        simp only [Bool.and_eq_true, beq_iff_eq] at h
        exact hne (by cases c; cases d; simp_all)
      unfold chkB
      rw [if_pos (cErr_mk hp ⟨x0, by omega⟩ (cases_way hc) ⟨y0, by omega⟩ (cases_way hd)), if_neg hne2, if_pos (by rw [he]; simp)]
  · rintro ⟨h1, h2⟩
    cases ht : telB l lots.toNat 0 with
    | true => rfl
    | false =>
      exfalso
      cases hq : badI (marksL lots l) (marksL lots l) 0 with
      | none =>
        have := badI_tel hp
        rw [hq, ht] at this
        cases this
      | some r =>
        have hc := bad_chk hp hq
        obtain ⟨c0, c1, d0, d1⟩ := r
        dsimp only at hc
        unfold chkB at hc
        by_cases he : cErr lots l [⟨c0, c1⟩, ⟨d0, d1⟩] = 0
        · rw [if_pos he] at hc
          obtain ⟨_, hr⟩ := cErr_ok he
          obtain ⟨a1, a2, a3⟩ := hr ⟨c0, c1⟩ (by simp)
          obtain ⟨b1, b2, b3⟩ := hr ⟨d0, d1⟩ (by simp)
          dsimp only at a1 a2 a3 b1 b2 b3
          have mc := mem_cases a1 a2 a3
          have md := mem_cases b1 b2 b3
          by_cases hs : (c0 == d0 && c1 == d1) = true
          · rw [if_pos hs] at hc
            split at hc
            · rename_i hz
              exact h1 (List.mem_map.2 ⟨⟨c0, c1⟩, mc, (all_zero l c0 c1).1 hz⟩)
            · cases hc
          · rw [if_neg hs] at hc
            split at hc
            · rename_i hz
              have := nodup_map_inj h2 ⟨c0, c1⟩ mc ⟨d0, d1⟩ md (beq_iff_eq.1 hz)
              simp only [S35.mk.injEq] at this
              simp [this] at hs
            · cases hc
        · rw [if_neg he] at hc
          exact he hc
end Go.Proofs.Ytdbeochifofdoaa.X
end

section
/-! Lists and plans are the same as themselves. -/
namespace Go.Proofs.Ytdbeochifofdoaa.X
open Go.RowKit Go.Proofs.YtdbeochifofdoaaW.PrintWords Go.Proofs.YtdbeochifofdoaaW.PrintLast
set_option linter.unusedVariables false
theorem sameP_l0 (l : List S53) (hl : l.length ≤ 50) (h3 : ∀ y, y ∈ l → y.f0.length ≤ 50 ∧ y.f1.length ≤ 50) : ∀ (d k i : Nat), i ≤ l.length → l.length - i = d → d + 60 < k → verditerref06_Same.l0 k l l i = some true
  | 0, k + 1, i, h1, h2, _ => by
    unfold verditerref06_Same.l0
    rw [if_neg (by omega)]
  | d + 1, k + 1, i, h1, h2, h3' => by
    unfold verditerref06_Same.l0
    have ih := sameP_l0 l hl h3 d k (i + 1) (by omega) (by omega) (by omega)
    have hm := h3 _ (mem_getD z53 l i (by omega))
    rw [if_pos (by omega), if_pos (by omega), if_pos (by omega), show rd_T53 l (i : Int) = l.getD i z53 from rfl, same_f _ _ k (by omega) (by omega), Option.bind_some, beq_self_eq_true, if_pos rfl, same_f _ _ k (by omega) (by omega), Option.bind_some, beq_self_eq_true, if_pos rfl, wrs i (by omega), ih]
theorem sameP_f (l : List S53) (hl : l.length ≤ 50) (h3 : ∀ y, y ∈ l → y.f0.length ≤ 50 ∧ y.f1.length ≤ 50) (k : Nat) (hk : 200 ≤ k) : verditerref06_Same.f k l l = some true := by
  unfold verditerref06_Same.f
  rw [if_pos rfl]
  exact sameP_l0 l hl h3 l.length k 0 (by omega) (by omega) (by omega)
end Go.Proofs.Ytdbeochifofdoaa.X
end

section
/-! Other numbers of the lots: the document's answer, and that it tells as well. -/
namespace Go.Proofs.Ytdbeochifofdoaa.X
open Go.RowKit Go.Proofs.YtdbeochifofdoaaW.PrintWords Go.Proofs.YtdbeochifofdoaaW.PrintLast
set_option linter.unusedVariables false
set_option linter.unusedSimpArgs false

/-! Sorting. -/
theorem insR_perm (x : Int) : ∀ r, (insR x r).Perm (x :: r)
  | [] => .refl _
  | a :: r => by
    unfold insR
    split
    · exact ((insR_perm x r).cons a).trans (.swap x a r)
    · exact .refl _
theorem insR_fall (x : Int) : ∀ r, r.Pairwise (fun a b => b ≤ a) → (insR x r).Pairwise (fun a b => b ≤ a)
  | [], _ => by simp [insR]
  | a :: r, h => by
    rw [List.pairwise_cons] at h
    unfold insR
    split
    · rename_i hx
      refine List.Pairwise.cons (fun b hb => ?_) (insR_fall x r h.2)
      rcases List.mem_cons.1 ((insR_perm x r).subset hb) with rfl | hb
      · omega
      · exact h.1 b hb
    · rename_i hx
      refine List.Pairwise.cons (fun b hb => ?_) (List.Pairwise.cons h.1 h.2)
      rcases List.mem_cons.1 hb with rfl | hb
      · omega
      · have := h.1 b hb; omega
theorem sortR_perm : ∀ (l ra : List Int), (sortR ra l).Perm (ra ++ l)
  | [], ra => by rw [List.append_nil]; exact .refl _
  | x :: l, ra => by
    refine (sortR_perm l (insR x ra)).trans ?_
    refine ((insR_perm x ra).append_right l).trans ?_
    exact List.perm_middle.symm
theorem sortR_fall : ∀ (l ra : List Int), ra.Pairwise (fun a b => b ≤ a) → (sortR ra l).Pairwise (fun a b => b ≤ a)
  | [], ra, h => h
  | x :: l, ra, h => sortR_fall l (insR x ra) (insR_fall x ra h)
theorem sortL_perm (l : List Int) : (sortL l).Perm l := by
  rw [sortL]
  exact (List.reverse_perm _).trans (sortR_perm l [])
theorem sortL_asc (l : List Int) (h : l.Nodup) : (sortL l).Pairwise (· < ·) := by
  have h1 : (sortL l).Pairwise (fun a b => a ≤ b) := by
    rw [sortL, List.pairwise_reverse]
    exact sortR_fall l [] List.Pairwise.nil
  have h2 : (sortL l).Nodup := (sortL_perm l).nodup_iff.2 h
  exact (h1.and h2).imp (fun ⟨h3, h4⟩ => by omega)
/-! As many as there are: none twice. -/
theorem perm_of {α : Type} [BEq α] [LawfulBEq α] : ∀ (R tq : List α), R.Nodup → (∀ x, x ∈ R → x ∈ tq) → tq.length ≤ R.length → tq.Perm R
  | [], tq, _, _, h => by
    obtain rfl := List.eq_nil_of_length_eq_zero (by simpa using h)
    exact .refl _
  | x :: R, tq, hn, hs, hl => by
    rw [List.nodup_cons] at hn
    have hx := hs x List.mem_cons_self
    have h1 := List.perm_cons_erase hx
    have h2 := h1.length_eq
    rw [List.length_cons] at h2 hl
    refine h1.trans ((perm_of R (tq.erase x) hn.2 (fun y hy => ?_) (by omega)).cons x)
    refine (List.mem_erase_of_ne ?_).2 (hs y (List.mem_cons_of_mem _ hy))
    rintro rfl
    exact hn.1 hy
/-- Other numbers: each number once. -/
structure OkR (lots : Int) (tq : List Int) : Prop where
  len : (tq.length : Int) = lots
  bound : ∀ n : Int, 0 ≤ n → n < lots → 0 ≤ rd tq n ∧ rd tq n < lots
  inj : ∀ n m : Int, 0 ≤ n → n < lots → 0 ≤ m → m < lots → rd tq n = rd tq m → n = m
  sur : ∀ i : Int, 0 ≤ i → i < lots → ∃ n : Int, 0 ≤ n ∧ n < lots ∧ rd tq n = i
theorem rErr_ok {lots : Int} {l : List S53} {tq : List Int} (h : rErr lots l tq = 0) : pErr lots l = 0 ∧ OkR lots tq := by
  unfold rErr at h
  by_cases hp : pErr lots l = 0
  · rw [if_pos hp] at h
    by_cases hl : (tq.length : Int) = lots
    · rw [if_pos hl] at h
      by_cases ha : (List.range lots.toNat).all (fun n => tq.contains (n : Int)) = true
      · rw [List.all_eq_true] at ha
        have hR : ((List.range lots.toNat).map (fun (n : Nat) => (n : Int))).Nodup := by
          unfold List.Nodup
          rw [List.pairwise_map]
          refine List.Pairwise.imp ?_ (List.nodup_range (n := lots.toNat))
          intro a b hne he
          exact hne (by omega)
        have hP := perm_of ((List.range lots.toNat).map (fun (n : Nat) => (n : Int))) tq hR (fun x hx => by
          obtain ⟨n, hn, rfl⟩ := List.mem_map.1 hx
          simpa using ha n hn) (by simp; omega)
        have hN : tq.Nodup := hP.nodup_iff.2 hR
        have hget : ∀ n : Int, 0 ≤ n → n < lots → ∃ k : Nat, ∃ hk : k < tq.length, n = (k : Int) ∧ rd tq n = tq[k] := by
          intro n h0 h1
          obtain ⟨k, rfl⟩ := Int.eq_ofNat_of_zero_le h0
          refine ⟨k, by omega, rfl, ?_⟩
          show tq.getD k 0 = _
          simp [List.getD_eq_getElem?_getD, List.getElem?_eq_getElem (show k < tq.length by omega)]
        refine ⟨hp, hl, fun n h0 h1 => ?_, fun n m h0 h1 h2 h3 he => ?_, fun i h0 h1 => ?_⟩
        · obtain ⟨k, hk, rfl, e⟩ := hget n h0 h1
          have hm := hP.subset (List.getElem_mem hk)
          obtain ⟨q, hq, e2⟩ := List.mem_map.1 hm
          rw [List.mem_range] at hq
          rw [e, ← e2]
          omega
        · obtain ⟨a, ha1, rfl, e1⟩ := hget n h0 h1
          obtain ⟨b, hb1, rfl, e2⟩ := hget m h2 h3
          rw [e1, e2] at he
          have := (List.nodup_iff_pairwise_ne.1 hN)
          rw [List.pairwise_iff_getElem] at this
          rcases Nat.lt_trichotomy a b with hab | hab | hab
          · exact absurd he (this a b ha1 hb1 hab)
          · omega
          · exact absurd he.symm (this b a hb1 ha1 hab)
        · obtain ⟨n, rfl⟩ := Int.eq_ofNat_of_zero_le h0
          have hm : (n : Int) ∈ tq := by simpa using ha n (by rw [List.mem_range]; omega)
          obtain ⟨k, hk, e⟩ := List.mem_iff_getElem.1 hm
          refine ⟨k, by omega, by omega, ?_⟩
          show tq.getD k 0 = _
          rw [← e]
          simp [List.getD_eq_getElem?_getD, List.getElem?_eq_getElem hk]
      · rw [if_neg ha] at h; cases h
    · rw [if_neg hl] at h; cases h
  · rw [if_neg hp] at h; exact absurd h hp
section
variable {lots : Int} {tq : List Int}
theorem asc_of {l : List Int} (h : isSetB lots l = true) : l.Pairwise (· < ·) := (asc_of_set lots l none h).2
theorem map_nodup (ok : OkR lots tq) : ∀ {l : List Int}, l.Pairwise (· < ·) → (∀ n, n ∈ l → 0 ≤ n ∧ n < lots) → (l.map fun n => rd tq n).Nodup := by
  intro l h hb
  unfold List.Nodup
  rw [List.pairwise_map]
  refine List.Pairwise.imp_of_mem ?_ h
  intro a b ha hb' hab he
  have h1 := hb a ha
  have h2 := hb b hb'
  have := ok.inj a b h1.1 h1.2 h2.1 h2.2 he
  omega
theorem renL_mem {l : List Int} {x : Int} : x ∈ renL tq l ↔ ∃ n, n ∈ l ∧ rd tq n = x := by
  rw [renL, (sortL_perm _).mem_iff, List.mem_map]
theorem set_of_asc (c : Int) : ∀ (xs : List Int) (p : Option Int), xs.Pairwise (· < ·) → (∀ x, x ∈ xs → 0 ≤ x ∧ x < c) → (∀ q, p = some q → ∀ x, x ∈ xs → q < x) → setFrom c p xs = true
  | [], p, _, _, _ => rfl
  | x :: xs, p, h, hb, hp => by
    rw [List.pairwise_cons] at h
    have h0 := hb x List.mem_cons_self
    rw [setFrom_cons, set_of_asc c xs (some x) h.2 (fun y hy => hb y (List.mem_cons_of_mem _ hy)) (fun q hq y hy => by injection hq with hq; rw [← hq]; exact h.1 y hy)]
    have h1 : aboveB p x = true := by
      cases p with
      | none => rfl
      | some q => have := hp q rfl x List.mem_cons_self; simp [aboveB]; omega
    rw [h1]
    simp
    omega
theorem renW_ok (ok : OkR lots tq) {y : S53} (h : OkW lots y) : OkW lots (renW tq y) := by
  have b0 : ∀ n, n ∈ renL tq y.f0 → 0 ≤ n ∧ n < lots := fun n hn => by
    obtain ⟨a, ha, rfl⟩ := renL_mem.1 hn
    exact ok.bound a (h.left a ha).1 (h.left a ha).2
  have b1 : ∀ n, n ∈ renL tq y.f1 → 0 ≤ n ∧ n < lots := fun n hn => by
    obtain ⟨a, ha, rfl⟩ := renL_mem.1 hn
    exact ok.bound a (h.right a ha).1 (h.right a ha).2
  refine ⟨b0, b1, ?_, ?_, fun n hn hm => ?_, ?_⟩
  · exact set_of_asc lots _ none (sortL_asc _ (map_nodup ok (asc_of h.lset) h.left)) b0 (fun q hq => by cases hq)
  · exact set_of_asc lots _ none (sortL_asc _ (map_nodup ok (asc_of h.rset) h.right)) b1 (fun q hq => by cases hq)
  · obtain ⟨a, ha, ea⟩ := renL_mem.1 (show n ∈ renL tq y.f0 from hn)
    obtain ⟨b, hb, eb⟩ := renL_mem.1 (show n ∈ renL tq y.f1 from hm)
    have := ok.inj a b (h.left a ha).1 (h.left a ha).2 (h.right b hb).1 (h.right b hb).2 (by rw [ea, eb])
    subst this
    exact h.apart a ha hb
  · show (renL tq y.f0).length = (renL tq y.f1).length
    rw [renL_len, renL_len]
    exact h.even
theorem renP_ok (ok : OkR lots tq) {l : List S53} (hp : pErr lots l = 0) : pErr lots (renP tq l) = 0 := by
  have h := pErr_ok hp
  refine ok_pErr ⟨h.lo, h.hi, by rw [renP, List.length_map]; exact h.few, fun x hx => ?_⟩
  obtain ⟨y, hy, rfl⟩ := List.mem_map.1 hx
  exact renW_ok ok (h.each y hy)
theorem mark_ren (ok : OkR lots tq) {y : S53} (h : OkW lots y) (n : Int) (h0 : 0 ≤ n) (h1 : n < lots) : markOf (rd tq n) (renW tq y) = markOf n y := by
  have e : ∀ l : List Int, (∀ m, m ∈ l → 0 ≤ m ∧ m < lots) → (renL tq l).contains (rd tq n) = l.contains n := by
    intro l hl
    rw [Bool.eq_iff_iff, List.contains_iff_mem, List.contains_iff_mem, renL_mem]
    constructor
    · rintro ⟨m, hm, he⟩
      rw [ok.inj n m h0 h1 (hl m hm).1 (hl m hm).2 he.symm]
      exact hm
    · exact fun hn => ⟨n, hn, rfl⟩
  unfold markOf
  rw [show (renW tq y).f1 = renL tq y.f1 from rfl, show (renW tq y).f0 = renL tq y.f0 from rfl, e _ h.right, e _ h.left]
theorem ans_ren (ok : OkR lots tq) {l : List S53} (hp : pErr lots l = 0) (n w : Int) (h0 : 0 ≤ n) (h1 : n < lots) : ansB (renP tq l) (rd tq n) w = ansB l n w := by
  rw [ans_map, ans_map, renP, List.map_map]
  refine List.map_congr_left fun y hy => ?_
  show wrap64 (w * markOf (rd tq n) (renW tq y)) = _
  rw [mark_ren ok ((pErr_ok hp).each y hy) n h0 h1]
theorem cases_nd {lots : Int} (h1 : 1 ≤ lots) (h2 : lots ≤ 13) : (casesL lots).Nodup := by
  obtain ⟨n, rfl⟩ := Int.eq_ofNat_of_zero_le (show 0 ≤ lots by omega)
  have := cases_nodup (n - 1) (by omega)
  rwa [show n - 1 + 1 = n by omega] at this
theorem tel_nodup {l : List S53} (hp : pErr lots l = 0) : telB l lots.toNat 0 = true ↔ (ansB l 0 0 :: (casesL lots).map fun c => ansB l c.f0 c.f1).Nodup := by
  have ok := pErr_ok hp
  have hlo := ok.lo
  have hfold : foundR lots l = ((casesL lots).map fun c => ansB l c.f0 c.f1).foldl putL [ansB l 0 0] := by
    unfold foundR
    rw [List.foldl_map]
  have hF := fold_len ((casesL lots).map fun c => ansB l c.f0 c.f1) [ansB l 0 0] (by simp)
  rw [← hfold, List.length_map, casesL_len, List.length_singleton, List.singleton_append] at hF
  rw [found_tel hp, ← hF.2, beq_iff_eq]
  omega
theorem tel_ren (ok : OkR lots tq) {l : List S53} (hp : pErr lots l = 0) : telB (renP tq l) lots.toNat 0 = telB l lots.toNat 0 := by
  have hP := pErr_ok hp
  rw [Bool.eq_iff_iff, tel_nodup hp, tel_nodup (renP_ok ok hp), show ansB (renP tq l) 0 0 = ansB l 0 0 by rw [ans_zero, ans_zero, renP, List.length_map]]
  have h1 : ((casesL lots).map fun c => (⟨rd tq c.f0, c.f1⟩ : S35)).Perm (casesL lots) := by
    refine perm_of (casesL lots) _ (cases_nd hP.lo hP.hi) (fun x hx => ?_) (by simp)
    obtain ⟨x0, x1⟩ := casesL_mem hx
    have hlo := hP.lo
    obtain ⟨n, n0, n1, e⟩ := ok.sur x.f0 x0 (by omega)
    rw [List.mem_map]
    exact ⟨⟨n, x.f1⟩, mem_cases n0 n1 (cases_way hx), by show (⟨rd tq n, x.f1⟩ : S35) = x; rw [e]⟩
  have h2 := h1.map (fun c => ansB (renP tq l) c.f0 c.f1)
  rw [List.map_map] at h2
  have h3 : ((casesL lots).map ((fun c => ansB (renP tq l) c.f0 c.f1) ∘ fun c => (⟨rd tq c.f0, c.f1⟩ : S35))) = (casesL lots).map fun c => ansB l c.f0 c.f1 := by
    refine List.map_congr_left fun c hc => ?_
    obtain ⟨x0, x1⟩ := casesL_mem hc
    have hlo := hP.lo
    exact ans_ren ok hp c.f0 c.f1 x0 (by omega)
  rw [h3] at h2
  exact ((h2.cons _).nodup_iff).symm
end
/-! The document's answer. -/
theorem ren_l1 (tq l : List Int) (x6 : Nat) (hx6 : x6 < 50) (hl : l.length ≤ 50) (ht : tq.length ≤ 50) (hb : ∀ n, n ∈ l → 0 ≤ n ∧ n < (tq.length : Int)) (K : Nat) (R : Option (List Int)) (acc : List Int) :
    ∀ (d k i : Nat) (out : List Int), i ≤ l.length → l.length - i = d → d + K < k → out.length + d ≤ 5000 →
      (∀ k, K ≤ k → verditerref06_renamed.l0 k l tq (out ++ ((l.drop i).filter (fun n => rd tq n == (x6 : Int))).map (fun _ => (x6 : Int))) (((x6 + 1 : Nat)) : Int) = R) → verditerref06_renamed.l1 k l tq out x6 i = R
  | 0, k + 1, i, out, h1, h2, h3, h4, hR => by
    have := hR k (by omega)
    rw [List.drop_eq_nil_of_le (by omega), List.filter_nil, List.map_nil, List.append_nil] at this
    rw [verditerref06_renamed.l1, if_neg (by omega), wrs x6 (by omega)]
    exact this
  | d + 1, k + 1, i, out, h1, h2, h3, h4, hR => by
    have hm := hb _ (mem_getD 0 l i (by omega))
    have e : rd l (i : Int) = l.getD i 0 := rfl
    rw [dropD 0 l i (by omega), List.filter_cons] at hR
    rw [verditerref06_renamed.l1, if_pos (by omega), if_pos (by omega), e, if_pos hm.1, if_pos hm.2]
    by_cases hx : rd tq (l.getD i 0) = (x6 : Int)
    · rw [if_pos hx, if_pos (by omega), wrs i (by omega)]
      rw [if_pos (by rw [hx]; simp)] at hR
      refine ren_l1 tq l x6 hx6 hl ht hb K R acc d k (i + 1) (out ++ [(x6 : Int)]) (by omega) (by omega) (by omega) (by simp; omega) (fun k hk => ?_)
      have := hR k hk
      rw [List.map_cons] at this
      rw [List.append_assoc, List.singleton_append]
      exact this
    · rw [if_neg hx, wrs i (by omega)]
      rw [if_neg (by simpa using hx)] at hR
      exact ren_l1 tq l x6 hx6 hl ht hb K R acc d k (i + 1) out (by omega) (by omega) (by omega) (by omega) hR
theorem filter_one (f : Int → Int) (x : Int) : ∀ (l : List Int), (l.map f).Nodup → ((l.filter (fun n => f n == x)).map (fun _ => x)) = if (l.map f).contains x = true then [x] else []
  | [], _ => rfl
  | a :: l, h => by
    rw [List.map_cons, List.nodup_cons] at h
    have ih := filter_one f x l h.2
    rw [List.filter_cons, List.map_cons, List.contains_cons]
    by_cases hx : f a = x
    · have hc : ¬ (l.map f).contains x = true := by rw [List.contains_iff_mem, ← hx]; exact h.1
      rw [if_neg hc] at ih
      rw [if_pos (by simpa using hx), List.map_cons, ih, if_pos (by rw [← hx]; simp)]
    · have hx2 : (x == f a) = false := by simpa using fun e => hx e.symm
      rw [if_neg (by simpa using hx), ih, hx2, Bool.false_or]
theorem ren_l0 (tq l : List Int) (hl : l.length ≤ 50) (ht : tq.length ≤ 50) (hb : ∀ n, n ∈ l → 0 ≤ n ∧ n < (tq.length : Int)) (hn : (l.map fun n => rd tq n).Nodup) : ∀ (d k x : Nat) (out : List Int), x + d = tq.length → out.length ≤ x * 50 → d * 60 < k →
    verditerref06_renamed.l0 k l tq out x = some (out ++ ((List.range' x d).filter (fun (n : Nat) => (l.map fun n => rd tq n).contains (n : Int))).map (fun n => ((n : Nat) : Int)))
  | 0, k + 1, x, out, h1, h2, h3 => by
    rw [verditerref06_renamed.l0, if_neg (by omega)]
    simp
  | d + 1, k + 1, x, out, h1, h2, h3 => by
    rw [verditerref06_renamed.l0, if_pos (by omega)]
    refine ren_l1 tq l x (by omega) hl ht hb (d * 60 + 1) _ [] l.length k 0 out (by omega) (by omega) (by omega) (by have : x * 50 ≤ 50 * 50 := Nat.mul_le_mul_right 50 (by omega); omega) (fun k hk => ?_)
    rw [List.drop_zero, filter_one (fun n => rd tq n) (x : Int) l hn]
    have ih := fun out h => ren_l0 tq l hl ht hb hn d k (x + 1) out (by omega) h (by omega)
    rw [List.range'_succ, List.filter_cons]
    by_cases hc : (l.map fun n => rd tq n).contains (x : Int) = true
    · rw [if_pos hc, ih _ (by simp; omega), if_pos hc, List.map_cons, List.append_assoc, List.singleton_append]
    · rw [if_neg hc, ih _ (by simp; omega), if_neg hc, List.append_nil]
theorem renamed_f {lots : Int} (tq l : List Int) (ok : OkR lots tq) (hlots : lots ≤ 13) (hs : isSetB lots l = true) (hl : l.length ≤ 50) (hb : ∀ n, n ∈ l → 0 ≤ n ∧ n < lots) (k : Nat) (hk : 900 ≤ k) : verditerref06_renamed.f k l tq = some (renL tq l) := by
  have hlen := ok.len
  have hnd := map_nodup ok (asc_of hs) hb
  unfold verditerref06_renamed.f
  have h := ren_l0 tq l hl (by omega) (fun n hn => by have := hb n hn; omega) hnd tq.length k 0 [] (by omega) (by simp) (by omega)
  rw [show (0 : Int) = ((0 : Nat) : Int) from rfl, h, List.nil_append]
  have h2 := filter_asc tq.length 0 (renL tq l) (sortL_asc _ hnd) (fun x hx => by
    obtain ⟨n, hn, rfl⟩ := renL_mem.1 hx
    have := ok.bound n (hb n hn).1 (hb n hn).2
    omega)
  rw [← h2]
  congr 2
  refine List.filter_congr fun n _ => ?_
  rw [Bool.eq_iff_iff, List.contains_iff_mem, List.contains_iff_mem, renL, (sortL_perm _).mem_iff]
theorem refRen_l1 {lots : Int} (tq : List Int) (l : List S53) (ok : OkR lots tq) (hp : pErr lots l = 0) : ∀ (d k i : Nat) (out : List S53), i ≤ l.length → l.length - i = d → d + 1000 < k → out.length ≤ i →
    verditerref06_Rename.l1 k l tq out i = some (out ++ (l.drop i).map (renW tq), 0)
  | 0, k + 1, i, out, h1, h2, h3, h4 => by
    rw [verditerref06_Rename.l1, if_neg (by omega), List.drop_eq_nil_of_le (by omega), List.map_nil, List.append_nil]
  | d + 1, k + 1, i, out, h1, h2, h3, h4 => by
    have h := pErr_ok hp
    have hfew := h.few
    have hw := h.each _ (mem_getD z53 l i (by omega))
    have hs := ok_short hp _ (mem_getD z53 l i (by omega))
    have ih := refRen_l1 tq l ok hp d k (i + 1) (out ++ [renW tq (l.getD i z53)]) (by omega) (by omega) (by omega) (by simp; omega)
    rw [verditerref06_Rename.l1, if_pos (by omega), if_pos (by omega), show rd_T53 l (i : Int) = l.getD i z53 from rfl, renamed_f tq _ ok h.hi hw.lset (by omega) hw.left k (by omega), Option.bind_some,
      renamed_f tq _ ok h.hi hw.rset (by omega) hw.right k (by omega), Option.bind_some, if_pos (by omega), wrs i (by omega), dropD z53 l i (by omega), List.map_cons]
    rw [show (⟨renL tq (l.getD i z53).f0, renL tq (l.getD i z53).f1⟩ : S53) = renW tq (l.getD i z53) from rfl, ih, List.append_assoc, List.singleton_append]
theorem refRen_l0 {lots : Int} (tq : List Int) (l : List S53) (hp : pErr lots l = 0) (hlen : (tq.length : Int) = lots) : ∀ (d k i : Nat), i + d = tq.length → d + 1200 < k → (∀ n, n < i → tq.contains (n : Int) = true) →
    verditerref06_Rename.l0 k lots l tq i = some (if rErr lots l tq = 0 then (renP tq l, 0) else ([], rErr lots l tq))
  | 0, k + 1, i, h1, h3, h4 => by
    have hall : (List.range lots.toNat).all (fun n => tq.contains (n : Int)) = true := by
      rw [List.all_eq_true]
      intro n hn
      rw [List.mem_range] at hn
      exact h4 n (by omega)
    have he : rErr lots l tq = 0 := by unfold rErr; rw [if_pos hp, if_pos hlen, if_pos hall]
    have hfew := (pErr_ok hp).few
    rw [verditerref06_Rename.l0, if_neg (by omega), if_pos he]
    have := refRen_l1 tq l (rErr_ok he).2 hp l.length k 0 [] (by omega) (by omega) (by omega) (by simp)
    rw [List.drop_zero, List.nil_append] at this
    exact this
  | d + 1, k + 1, i, h1, h3, h4 => by
    have hhi := (pErr_ok hp).hi
    rw [verditerref06_Rename.l0, if_pos (by omega), has_f tq (i : Int) k (by omega) (by omega), Option.bind_some]
    by_cases hc : tq.contains (i : Int) = true
    · rw [if_pos hc, wrs i (by omega)]
      exact refRen_l0 tq l hp hlen d k (i + 1) (by omega) (by omega) (fun n hn => by
        by_cases he : n = i
        · rw [he]; exact hc
        · exact h4 n (by omega))
    · have hall : ¬ (List.range lots.toNat).all (fun n => tq.contains (n : Int)) = true := by
        rw [List.all_eq_true]
        intro h
        exact hc (h i (by rw [List.mem_range]; omega))
      rw [if_neg hc, show rErr lots l tq = 1 by unfold rErr; rw [if_pos hp, if_pos hlen, if_neg hall], if_neg (by decide)]
theorem refRename_f (lots : Int) (l : List S53) (hl : l.length ≤ 50) (hs : ∀ y, y ∈ l → y.f0.length ≤ 50 ∧ y.f1.length ≤ 50) (tq : List Int) (k : Nat) (hk : 2000 ≤ k) :
    verditerref06_Rename.f k lots l tq = some (if rErr lots l tq = 0 then (renP tq l, 0) else ([], rErr lots l tq)) := by
  unfold verditerref06_Rename.f
  rw [refValidate_f lots l (by omega) hs k (by omega), Option.bind_some]
  by_cases hp : pErr lots l = 0
  · rw [if_pos hp]
    by_cases hlen : (tq.length : Int) = lots
    · have hhi := (pErr_ok hp).hi
      rw [if_pos hlen]
      exact refRen_l0 tq l hp hlen tq.length k 0 (by omega) (by omega) (fun n hn => absurd hn (by omega))
    · rw [if_neg hlen, show rErr lots l tq = 1 by unfold rErr; rw [if_pos hp, if_neg hlen], if_neg (by decide)]
  · rw [if_neg hp, show rErr lots l tq = pErr lots l by unfold rErr; rw [if_neg hp], if_neg hp]
end Go.Proofs.Ytdbeochifofdoaa.X
end

section
/-! known, with more rounds. -/
namespace Go.Proofs.Ytdbeochifofdoaa.X
open Go.RowKit Go.Proofs.YtdbeochifofdoaaW.PrintWords Go.Proofs.YtdbeochifofdoaaW.PrintLast
theorem known_at : ∀ k, verditerlaw06_known.f (20 + k) = some true
  | 0 => verditerlaw06_known.is_true
  | k + 1 => verditerlaw06_known.mono (20 + k) _ (known_at k)
theorem known_k {k : Nat} (h : 20 ≤ k) : verditerlaw06_known.f k = some true := by
  have := known_at (k - 20)
  rwa [show 20 + (k - 20) = k by omega] at this
end Go.Proofs.Ytdbeochifofdoaa.X
end

section
namespace Go.Proofs.Ytdbeochifofdoaa.Pure
open Go.RowKit Go.Proofs.Ytdbeochifofdoaa.X Go.Proofs.YtdbeochifofdoaaW.PrintWords Go.Proofs.YtdbeochifofdoaaW.PrintLast
theorem wr_j0 (k : Nat) (x0 : Int) (x1 : List S53) (x2 : List Int) (b : Bool) : verditerlaw06_weighRenames.j0 (k + 1) x0 x1 x2 b = if b = true then ((verditerlaw06_known.f k).bind fun t830 => (some t830)) else ((verditerref06_Rename.f k x0 x1 x2).bind fun bt831 => ((weigh_Rename.f x0 x1 x2).bind fun bt835 => (if bt835.2 = bt831.2 then ((verditerref06_Same.f k bt835.1 bt831.1).bind fun t839 => (verditerlaw06_weighRenames.j1 k x0 x1 bt835.1 bt835.2 (!t839))) else (verditerlaw06_weighRenames.j1 k x0 x1 bt835.1 bt835.2 true)))) := by
  rw [verditerlaw06_weighRenames.j0]
theorem wr_j1 (k : Nat) (x0 : Int) (x1 x9 : List S53) (x10 : Int) (b : Bool) : verditerlaw06_weighRenames.j1 (k + 1) x0 x1 x9 x10 b = if b = true then (some false) else ((weigh_Tells.f x0 x1).bind fun bt840 => ((weigh_Tells.f x0 x9).bind fun bt842 => (if x10 = 0 then (if bt840.2 = 0 then (if bt842.2 = 0 then (if (bt840.1 == bt842.1) = true then ((verditerlaw06_known.f k).bind fun t844 => (some t844)) else (some false)) else (some false)) else (some false)) else ((verditerlaw06_known.f k).bind fun t845 => (some t845))))) := by
  rw [verditerlaw06_weighRenames.j1]
theorem WeighRenames (lots : Int) (l : List S53) (tq : List Int) (hl : l.length < 9223372036854775807) (_ : tq.length < 9223372036854775807) : ∃ k, verditerlaw06_weighRenames.f k lots l tq = some true := by
  refine ⟨3002, ?_⟩
  unfold verditerlaw06_weighRenames.f
  rw [long_f l hl _ (by omega), Option.bind_some]
  have hj : verditerlaw06_weighRenames.j0 3002 lots l tq true = some true := by rw [wr_j0, if_pos rfl, known_k (by omega), Option.bind_some]
  cases hb : longB l with
  | true => rw [if_pos rfl]; exact hj
  | false =>
    obtain ⟨hl50, hs50⟩ := long_not hb
    rw [if_neg (by simp)]
    by_cases hto : (tq.length : Int) > 100
    · rw [decide_eq_true hto]; exact hj
    · rw [decide_eq_false hto, wr_j0, if_neg (by simp), refRename_f lots l hl50 hs50 tq 3001 (by omega), Option.bind_some, show weigh_Rename.f lots l tq = some (if rErr lots l tq = 0 then (renP tq l, 0) else ([], rErr lots l tq)) from rfl, Option.bind_some, if_pos rfl]
      by_cases hz : rErr lots l tq = 0
      · obtain ⟨hp, ok⟩ := rErr_ok hz
        have hr := renP_ok ok hp
        have hfew := (pErr_ok hr).few
        have hsh := ok_short hr
        rw [if_pos hz]
        dsimp only
        rw [sameP_f (renP tq l) (by omega) (fun y hy => by have := hsh y hy; omega) 3001 (by omega), Option.bind_some, wr_j1, if_neg (by simp), Tells_f, Option.bind_some, Tells_f, Option.bind_some, if_pos hp, if_pos hr, tel_ren ok hp]
        simp [known_k (show 20 ≤ 3000 by omega)]
      · rw [if_neg hz]
        dsimp only
        rw [sameP_f [] (by simp) (fun y hy => by simp at hy) 3001 (by omega), Option.bind_some, wr_j1, if_neg (by simp), Tells_f, Option.bind_some, Tells_f, Option.bind_some, if_neg hz, known_k (by omega), Option.bind_some]
end Go.Proofs.Ytdbeochifofdoaa.Pure
end

section
/-! The row of the law WeighRenames (after the rows that print.py writes). -/
namespace Go.Proofs.Ytdbeochifofdoaa.weighRenames
open Go.ChangeShapes Go.WideShapes Go.ChangeAt Go.RowKit
open Go.ChangeMaps (open_string shut_string)
set_option linter.unusedVariables false
theorem own : ownKnob Try.prog.godebug = none := by kernel_rfl
theorem laidOut : laidOutB Try.prog = true := by kernel_rfl
set_option maxRecDepth 100000 in
theorem lifted (os : Os) (started : os.Started) (H : Type) (enc : TypeId × Value → H) :
    ReturnsInHanded {} Try.checked os 16 .any (Rows.weighRenamesSpec.pre6 enc Try.prog Try.f16 Rows.weighRenamesRow.domain false) (Rows.weighRenamesSpec.post enc Try.prog Try.f16 false true false false) := by
  refine returnsInHanded_of_change_sized (C := Try.checked) own started (by kernel_rfl) Try.func16
    (ChangeSpec.witness6 (enc := enc) (C := Try.checked) false ⟨#[], #[.int .i64 0, .slice none 0 0, .slice none 0 0], []⟩ 8 (by kernel_rfl) (by kernel_rfl) (by kernel_rfl) (by kernel_rfl)) ?_
  intro W base args ds gs before hval0 hW hcnd hsz0 _
  have hsz : (DataW.weightsEach Try.prog (Try.f16.params.toList ++ Rows.weighRenamesSpec.plain.varTypes Try.prog) (ds ++ gs)).all (· ≤ reachBytes) = true := hsz0
  have hval : ∀ (j : Nat) t v, Try.f16.params[j]? = some t → args[j]? = some v → Value.okWide Try.prog W .any base t v := hval0
  have hW' := hW
  obtain ⟨p, q, hA0, hV, rfl, hfz, hnd⟩ := hW
  have hA : DataW.TrodAll enc Try.prog W 0 (fun _ => true) true Try.f16.params.toList args.toList ds p := hA0
  rw [Try.params16] at hA hval hsz
  obtain ⟨v0, vs0, d0, ds0, p0, q0, hargs, rfl, rfl, h0, r0⟩ := trodAll_cons hA
  obtain ⟨v1, vs1, d1, ds1, p1, q1, rfl, rfl, rfl, h1, r1⟩ := trodAll_cons r0
  obtain ⟨v2, vs2, d2, ds2, p2, q2, rfl, rfl, rfl, h2, r2⟩ := trodAll_cons r1
  obtain ⟨rfl, rfl, rfl⟩ := trodAll_nil r2
  obtain rfl : args = #[v0, v1, v2] := by cases args; simp_all
  obtain ⟨rfl, rfl⟩ := trodVars_none hV
  obtain ⟨a0, rfl, rfl, rfl, w0⟩ := open_int Try.underlying3 (hval 0 3 v0 rfl rfl) h0
  obtain ⟨a1, len1, cap1, rfl⟩ := okWide_slice Try.underlying22 (hval 1 22 v1 rfl rfl)
  have k1 := h1
  have lt1 : ∀ x ∈ p1, x.block < W.heap.size := by obtain ⟨m, hm⟩ := k1; exact DataW.trod_lt m _ _ _ hm
  obtain ⟨A, l, ys, e1, hle, hyl, hC, hF, hys, hl⟩ := X.open_plan h1 rfl (fun n hn => by
    have := List.all_eq_true.1 hsz n (DataW.weights_mem_each (j := 1) (t := 22) (d := d1) rfl rfl n hn)
    simpa using this)
  obtain ⟨rfl, rfl, rfl⟩ : a1 = A ∧ len1 = l.length ∧ cap1 = ys.length := by injection e1 with h1 h2 h3; exact ⟨h1, h2, h3⟩
  have k2 := h2
  have lt2 : ∀ x ∈ p2, x.block < W.heap.size := by obtain ⟨m, hm⟩ := k2; exact DataW.trod_lt m _ _ _ hm
  obtain ⟨a2, len2, cap2, rfl⟩ := okWide_slice X.o_underlying43 (hval 2 43 v2 rfl rfl)
  obtain ⟨A2, l2, ys2, e2, hle2, hyl2, hC2, hF2, hl2⟩ := X.open_nums h2 rfl (fun n hn => by
    have := List.all_eq_true.1 hsz n (DataW.weights_mem_each (j := 2) (t := 43) (d := d2) rfl rfl n hn)
    simpa using this)
  obtain ⟨rfl, rfl, rfl⟩ : a2 = A2 ∧ len2 = l2.length ∧ cap2 = ys2.length := by injection e2 with h1 h2 h3; exact ⟨h1, h2, h3⟩
  clear hA0 hval0 hsz0 hsz
  obtain ⟨k, hk⟩ := Pure.WeighRenames a0 l l2 (by omega) (by omega)
  refine (X.weighRenames_calls k a0 a1 l ys a2 l2 ys2 W hC hle hF hyl hys hC2 hle2 hF2 hyl2 hk).mono fun e W' ⟨he, bel⟩ => ?_
  subst he
  exact ⟨_, rfl, _, _, _, [], _, [], hW', trodAll_mk1 (shut_bool Try.underlying4 _), (trodAll_cons_mk (shut_int Try.underlying3 w0) (trodAll_cons_mk (Below.trod laidOut (by kernel_rfl) (of_decide_eq_true (by kernel_rfl)) k1 bel lt1) (trodAll_cons_mk (Below.trod laidOut (by kernel_rfl) (of_decide_eq_true (by kernel_rfl)) k2 bel lt2) trodAll_mk0))), rfl, bel.frame _, fun h => by cases h⟩
theorem over : Rows.weighRenamesRow.holds Try.pinned (OpenSpec.ofChange Rows.weighRenamesSpec) :=
  OpenClaim.holds_of_wide 16 Try.f16 rfl rfl rfl rfl rfl rfl rfl ⟨rfl, rfl, rfl, rfl, rfl⟩ rfl rfl rfl rfl rfl (by kernel_rfl) Try.func16 (by kernel_rfl)
    (of_decide_eq_true (by kernel_rfl)) (by unfold Func.isWrapper; first | (rw [if_pos (by decide +kernel)]; kernel_rfl) | (rw [if_neg (by decide +kernel)]; exact ⟨rfl, rfl⟩))
    (fun os started H enc _ => lifted os started H enc)
theorem proved : Rows.WeighRenamesSaid := over
end Go.Proofs.Ytdbeochifofdoaa.weighRenames
namespace Go.Proofs.Ytdbeochifofdoaa
/-- The row, under a short name, for the claim. -/
theorem weighRenames_holds : Rows.WeighRenamesSaid := weighRenames.proved
end Go.Proofs.Ytdbeochifofdoaa
end
