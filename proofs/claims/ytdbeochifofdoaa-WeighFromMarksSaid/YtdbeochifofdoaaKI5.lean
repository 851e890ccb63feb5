/- The law WeighFromMarks of the given program: the plan with given marks.
Its conditions: none beyond the statement's own. Part 6 of 6 of the proof. -/
import Derived.Test.YtdbeochifofdoaaRows
import Derived.WalkKit
import Derived.ProofKit
import Derived.OpenShut
import Derived.ShutString
import Derived.ChangeOld
import Derived.Below
import Derived.Carry
import Derived.SizedLaws
import Derived.Test.YtdbeochifofdoaaKI4
section
/-! The plan that is made of marks has them. -/
namespace Go.Proofs.Ytdbeochifofdoaa.X
open Go.RowKit Go.Proofs.YtdbeochifofdoaaW.PrintWords Go.Proofs.YtdbeochifofdoaaW.PrintLast
set_option linter.unusedVariables false
set_option linter.unusedSimpArgs false

theorem fromR_ok (L : List (List Int)) : ∀ (d k : Nat) (out a : List S53), fromR L d k out = (a, 0) →
    a = out ++ (List.range' k d).map (fun j => (⟨sideI j 1 0 L, sideI j (-1) 0 L⟩ : S53)) ∧ ∀ j, k ≤ j → j < k + d → (sideI j 1 0 L).length = (sideI j (-1) 0 L).length
  | 0, k, out, a, h => by
    unfold fromR at h
    simp only [Prod.mk.injEq, and_true] at h
    subst h
    exact ⟨by simp, fun j h1 h2 => by omega⟩
  | d + 1, k, out, a, h => by
    unfold fromR at h
    by_cases he : (sideI k 1 0 L).length = (sideI k (-1) 0 L).length
    · rw [if_pos he] at h
      obtain ⟨h1, h2⟩ := fromR_ok L d (k + 1) _ a h
      refine ⟨by rw [h1, List.range'_succ]; simp, fun j h3 h4 => ?_⟩
      rcases Nat.lt_or_ge k j with hj | hj
      · exact h2 j hj (by omega)
      · obtain rfl : j = k := by omega
        exact he
    · rw [if_neg he] at h
      simp at h
theorem sideI_mem (k : Nat) (s : Int) : ∀ (l : List (List Int)) (n : Nat) (x : Int), x ∈ sideI k s n l ↔ ∃ j, j < l.length ∧ x = ((n + j : Nat) : Int) ∧ (l.getD j []).getD k 0 = s
  | [], n, x => by simp [sideI]
  | m :: q, n, x => by
    rw [sideI_cons]
    have ih := sideI_mem k s q (n + 1) x
    have hq : (∃ j, j < q.length ∧ x = ((n + 1 + j : Nat) : Int) ∧ (q.getD j []).getD k 0 = s) ↔ ∃ j, 0 < j ∧ j < (m :: q).length ∧ x = ((n + j : Nat) : Int) ∧ ((m :: q).getD j []).getD k 0 = s := by
      constructor
      · rintro ⟨j, h1, h2, h3⟩
        exact ⟨j + 1, by omega, by simp; omega, by rw [h2]; congr 1; omega, h3⟩
      · rintro ⟨j, h0, h1, h2, h3⟩
        obtain ⟨j, rfl⟩ : ∃ i, j = i + 1 := ⟨j - 1, by omega⟩
        exact ⟨j, by simpa using h1, by rw [h2]; congr 1; omega, h3⟩
    rw [hq] at ih
    by_cases h : m.getD k 0 = s
    · rw [if_pos h, List.mem_cons, ih]
      constructor
      · rintro (rfl | ⟨j, h0, h1, h2, h3⟩)
        · exact ⟨0, by simp, by simp, h⟩
        · exact ⟨j, h1, h2, h3⟩
      · rintro ⟨j, h1, h2, h3⟩
        rcases Nat.eq_zero_or_pos j with rfl | hj
        · left; rw [h2]; simp
        · exact .inr ⟨j, hj, h1, h2, h3⟩
    · rw [if_neg h, ih]
      constructor
      · rintro ⟨j, h0, h1, h2, h3⟩
        exact ⟨j, h1, h2, h3⟩
      · rintro ⟨j, h1, h2, h3⟩
        rcases Nat.eq_zero_or_pos j with rfl | hj
        · exact absurd h3 h
        · exact ⟨j, hj, h1, h2, h3⟩
theorem sideI_set (c : Int) (k : Nat) (s : Int) : ∀ (l : List (List Int)) (n : Nat) (p : Option Int), ((n + l.length : Nat) : Int) ≤ c → (∀ q, p = some q → q < n) → setFrom c p (sideI k s n l) = true
  | [], n, p, _, _ => rfl
  | m :: q, n, p, hc, hp => by
    rw [List.length_cons] at hc
    rw [sideI_cons]
    by_cases h : m.getD k 0 = s
    · rw [if_pos h, setFrom_cons, sideI_set c k s q (n + 1) (some (n : Int)) (by omega) (fun q hq => by injection hq with hq; omega)]
      have ha : aboveB p (n : Int) = true := by
        match p, hp with
        | none, _ => rfl
        | some q, hp => simpa [aboveB] using hp q rfl
      rw [ha]
      simp
      omega
    · rw [if_neg h]
      exact sideI_set c k s q (n + 1) p (by omega) (fun q hq => by have := hp q hq; omega)
/-- A made plan is in order, and its marks are the given ones. -/
theorem made_ok {L : List (List Int)} {a : List S53} (h : weigh_FromMarks.f L = some (a, 0)) : pErr (L.length : Int) a = 0 ∧ marksV (L.length : Int) a = L ∧ L.length ≤ 13 ∧ ∀ m, m ∈ L → m.length ≤ 3 := by
  unfold weigh_FromMarks.f at h
  cases hw : (decide (1 ≤ (L.length : Int)) && decide ((L.length : Int) ≤ 13)) with
  | false => rw [hw, if_neg (by simp)] at h; simp at h
  | true =>
    have hl : 1 ≤ L.length ∧ L.length ≤ 13 := by simp at hw; omega
    rw [hw, if_pos rfl] at h
    cases hlb : lenB L with
    | true => rw [hlb, if_pos rfl] at h; simp at h
    | false =>
      have h3 : ∀ m, m ∈ L → m.length ≤ 3 := by
        intro m hm
        unfold lenB at hlb
        have := List.any_eq_false.1 hlb m hm
        simp at this
        omega
      rw [hlb, if_neg (by simp)] at h
      cases hbr : L.any (badRow L) with
      | true => rw [hbr, if_pos rfl] at h; simp at h
      | false =>
        rw [hbr, if_neg (by simp)] at h
        have hrow : ∀ m, m ∈ L → m.length = (L.getD 0 []).length ∧ sideB m = false := by
          intro m hm
          have := List.any_eq_false.1 hbr m hm
          unfold badRow at this
          simp at this
          exact this
        have hn := h3 _ (mem_getD ([] : List Int) L 0 (by omega))
        generalize (L.getD 0 []).length = n at *
        obtain ⟨ha, hev⟩ := fromR_ok L n 0 [] a (Option.some.inj h)
        rw [List.nil_append] at ha
        have hy : ∀ y, y ∈ a → ∃ j, j < n ∧ y = ⟨sideI j 1 0 L, sideI j (-1) 0 L⟩ := by
          intro y hy
          rw [ha] at hy
          obtain ⟨j, hj, rfl⟩ := List.mem_map.1 hy
          rw [List.mem_range'_1] at hj
          exact ⟨j, by omega, rfl⟩
        have hval : ∀ i j, i < L.length → j < n → -1 ≤ (L.getD i []).getD j 0 ∧ (L.getD i []).getD j 0 ≤ 1 := by
          intro i j hi hj
          obtain ⟨e1, e2⟩ := hrow _ (mem_getD ([] : List Int) L i hi)
          have h := List.any_eq_false.1 e2 _ (mem_getD 0 (L.getD i []) j (by omega))
          generalize (L.getD i []).getD j 0 = v at h ⊢
          simp at h
          omega
        refine ⟨ok_pErr ⟨by omega, by omega, by rw [ha]; simp; exact hn, ?_⟩, ?_, hl.2, h3⟩
        · intro y hyy
          obtain ⟨j, hj, rfl⟩ := hy y hyy
          refine ⟨fun x hx => ?_, fun x hx => ?_, ?_, ?_, fun x hx hx2 => ?_, hev j (by omega) (by omega)⟩
          · obtain ⟨i, hi, rfl, _⟩ := (sideI_mem j 1 L 0 x).1 hx
            omega
          · obtain ⟨i, hi, rfl, _⟩ := (sideI_mem j (-1) L 0 x).1 hx
            omega
          · exact sideI_set _ j 1 L 0 none (by omega) (fun q hq => by cases hq)
          · exact sideI_set _ j (-1) L 0 none (by omega) (fun q hq => by cases hq)
          · obtain ⟨i, hi, e1, e2⟩ := (sideI_mem j 1 L 0 x).1 hx
            obtain ⟨i', hi', e3, e4⟩ := (sideI_mem j (-1) L 0 x).1 hx2
            obtain rfl : i = i' := by omega
            rw [e2] at e4
            cases e4
        · unfold marksV
          rw [Int.toNat_natCast]
          apply List.ext_getElem
          · simp
          intro i h1 h2
          simp only [List.getElem_map, List.getElem_range]
          have ei : L[i] = L.getD i [] := by simp [List.getD_eq_getElem?_getD, List.getElem?_eq_getElem h2]
          rw [ei]
          have hlen := (hrow _ (mem_getD ([] : List Int) L i h2)).1
          unfold refMark
          rw [ha, List.map_map]
          apply List.ext_getElem
          · rw [hlen, List.length_map, List.length_range']
          intro j h4 h5
          simp only [List.getElem_map, List.getElem_range', Function.comp_apply, Nat.zero_add, Nat.one_mul]
          have hj : j < n := by simpa using h4
          have ej : (L.getD i [])[j] = (L.getD i []).getD j 0 := by
            rw [List.getD_eq_getElem?_getD (l := L.getD i []), List.getElem?_eq_getElem h5]
            rfl
          rw [ej]
          have hv := hval i j h2 hj
          have m1 : (sideI j 1 0 L).contains (i : Int) = decide ((L.getD i []).getD j 0 = 1) := by
            rw [Bool.eq_iff_iff, decide_eq_true_eq, List.contains_iff_mem, sideI_mem]
            constructor
            · rintro ⟨i', hi', e1, e2⟩
              obtain rfl : i = i' := by omega
              exact e2
            · intro e
              exact ⟨i, h2, by omega, e⟩
          have m2 : (sideI j (-1) 0 L).contains (i : Int) = decide ((L.getD i []).getD j 0 = -1) := by
            rw [Bool.eq_iff_iff, decide_eq_true_eq, List.contains_iff_mem, sideI_mem]
            constructor
            · rintro ⟨i', hi', e1, e2⟩
              obtain rfl : i = i' := by omega
              exact e2
            · intro e
              exact ⟨i, h2, by omega, e⟩
          unfold markOf
          dsimp only
          rw [m1, m2]
          generalize (L.getD i []).getD j 0 = v at *
          have : v = -1 ∨ v = 0 ∨ v = 1 := by omega
          rcases this with rfl | rfl | rfl <;> rfl
end Go.Proofs.Ytdbeochifofdoaa.X
end

section
/-! Lists and plans are the same as themselves. -/
namespace Go.Proofs.Ytdbeochifofdoaa.X
open Go.RowKit Go.Proofs.YtdbeochifofdoaaW.PrintWords Go.Proofs.YtdbeochifofdoaaW.PrintLast
set_option linter.unusedVariables false
theorem sameL_l0 (l : List (List Int)) (hl : l.length ≤ 50) (h3 : ∀ m, m ∈ l → m.length ≤ 50) : ∀ (d k i : Nat), i ≤ l.length → l.length - i = d → d + 60 < k → verditerref06_SameLists.l0 k l l i = some true
  | 0, k + 1, i, h1, h2, _ => by
    unfold verditerref06_SameLists.l0
    rw [if_neg (by omega)]
  | d + 1, k + 1, i, h1, h2, h3' => by
    unfold verditerref06_SameLists.l0
    have ih := sameL_l0 l hl h3 d k (i + 1) (by omega) (by omega) (by omega)
    have hm := h3 _ (mem_getD ([] : List Int) l i (by omega))
    rw [if_pos (by omega), if_pos (by omega), if_pos (by omega), show rd_L5 l (i : Int) = l.getD i [] from rfl, same_f _ _ k (by omega) (by omega), Option.bind_some, beq_self_eq_true, if_pos rfl, wrs i (by omega), ih]
theorem sameL_f (l : List (List Int)) (hl : l.length ≤ 50) (h3 : ∀ m, m ∈ l → m.length ≤ 50) (k : Nat) (hk : 200 ≤ k) : verditerref06_SameLists.f k l l = some true := by
  unfold verditerref06_SameLists.f
  rw [if_pos rfl]
  exact sameL_l0 l hl h3 l.length k 0 (by omega) (by omega) (by omega)
theorem sameP_l0 (l : List S53) (hl : l.length ≤ 50) (h3 : ∀ y, y ∈ l → y.f0.length ≤ 50 ∧ y.f1.length ≤ 50) : ∀ (d k i : Nat), i ≤ l.length → l.length - i = d → d + 60 < k → verditerref06_Same.l0 k l l i = some true
  | 0, k + 1, i, h1, h2, _ => by
    unfold verditerref06_Same.l0
    rw [if_neg (by omega)]
  | d + 1, k + 1, i, h1, h2, h3' => by
    unfold verditerref06_Same.l0
    have ih := sameP_l0 l hl h3 d k (i + 1) (by omega) (by omega) (by omega)
    have hm := h3 _ (mem_getD z53 l i (by omega))
    rw [if_pos (by omega), if_pos (by omega), if_pos (by omega), show rd_T53 l (i : Int) = l.getD i z53 from rfl, same_f _ _ k (by omega) (by omega), Option.bind_some, beq_self_eq_true, if_pos rfl, same_f _ _ k (by omega) (by omega), Option.bind_some, beq_self_eq_true, if_pos rfl, wrs i (by omega), ih]
theorem sameP_f (l : List S53) (hl : l.length ≤ 50) (h3 : ∀ y, y ∈ l → y.f0.length ≤ 50 ∧ y.f1.length ≤ 50) (k : Nat) (hk : 200 ≤ k) : verditerref06_Same.f k l l = some true := by
  unfold verditerref06_Same.f
  rw [if_pos rfl]
  exact sameP_l0 l hl h3 l.length k 0 (by omega) (by omega) (by omega)
end Go.Proofs.Ytdbeochifofdoaa.X
end

section
/-! known, with more rounds. -/
namespace Go.Proofs.Ytdbeochifofdoaa.X
open Go.RowKit Go.Proofs.YtdbeochifofdoaaW.PrintWords Go.Proofs.YtdbeochifofdoaaW.PrintLast
theorem known_at : ∀ k, verditerlaw06_known.f (20 + k) = some true
  | 0 => verditerlaw06_known.is_true
  | k + 1 => verditerlaw06_known.mono (20 + k) _ (known_at k)
theorem known_k {k : Nat} (h : 20 ≤ k) : verditerlaw06_known.f k = some true := by
  have := known_at (k - 20)
  rwa [show 20 + (k - 20) = k by omega] at this
end Go.Proofs.Ytdbeochifofdoaa.X
end

section
namespace Go.Proofs.Ytdbeochifofdoaa.Pure
open Go.RowKit Go.Proofs.Ytdbeochifofdoaa.X Go.Proofs.YtdbeochifofdoaaW.PrintWords Go.Proofs.YtdbeochifofdoaaW.PrintLast
theorem wfm_j1 (k : Nat) (x0 : List (List Int)) (x6 : List S53) (x7 : Int) (b : Bool) : verditerlaw06_weighFromMarks.j1 (k + 1) x0 x6 x7 b = if b = true then (some false) else (if x7 = 0 then ((weigh_Marks.f (x0.length : Int) x6).bind fun bt567 => (if bt567.2 = 0 then ((verditerref06_SameLists.f k bt567.1 x0).bind fun t571 => (if t571 = true then ((verditerlaw06_known.f k).bind fun t573 => (some t573)) else (some false))) else (some false))) else ((verditerlaw06_known.f k).bind fun t573 => (some t573))) := by
  rw [verditerlaw06_weighFromMarks.j1]
theorem fm_small {L : List (List Int)} {a : List S53} {e : Int} (h : weigh_FromMarks.f L = some (a, e)) (he : e ≠ 0) : a = [] := by
  unfold weigh_FromMarks.f at h
  split at h
  · split at h
    · simp only [Option.some.injEq, Prod.mk.injEq] at h; exact h.1.symm
    · split at h
      · simp only [Option.some.injEq, Prod.mk.injEq] at h; exact h.1.symm
      · have : ∀ (d k : Nat) (out : List S53), fromR L d k out = (a, e) → a = [] := by
          intro d
          induction d with
          | zero =>
            intro k out h
            unfold fromR at h
            simp only [Prod.mk.injEq] at h
            exact absurd h.2.symm he
          | succ d ih =>
            intro k out h
            unfold fromR at h
            split at h
            · exact ih _ _ h
            · simp only [Prod.mk.injEq] at h; exact h.1.symm
        exact this _ _ _ (Option.some.inj h)
  · simp only [Option.some.injEq, Prod.mk.injEq] at h; exact h.1.symm
theorem fm_some (L : List (List Int)) : ∃ a e, weigh_FromMarks.f L = some (a, e) := by
  unfold weigh_FromMarks.f
  split
  · split
    · exact ⟨_, _, rfl⟩
    · split
      · exact ⟨_, _, rfl⟩
      · exact ⟨_, _, rfl⟩
  · exact ⟨_, _, rfl⟩
theorem fm_loop (L : List (List Int)) (hL : L.length ≤ 50) : ∀ (d k i : Nat), i ≤ L.length → L.length - i = d → 2500 + d ≤ k → verditerlaw06_weighFromMarks.l0 k L i = some true
  | 0, k + 2, i, h1, h2, h3 => by
    have hk := known_k (k := k) (by omega)
    unfold verditerlaw06_weighFromMarks.l0
    obtain ⟨a, e, hf⟩ := fm_some L
    rw [if_neg (by omega), refFromMarks_f L hL (k + 1) (by omega), hf, Option.bind_some, Option.bind_some, if_pos rfl]
    dsimp only
    by_cases he : e = 0
    · subst he
      obtain ⟨hp, hm, hl, h3'⟩ := made_ok hf
      have ok := pErr_ok hp
      have few := ok.few
      have ha : ∀ y, y ∈ a → y.f0.length ≤ 50 ∧ y.f1.length ≤ 50 := by
        intro y hy
        have hw := ok.each y hy
        have e1 := side_left hw (by omega)
        have e2 := side_right hw (by omega)
        have l1 := congrArg List.length e1
        have l2 := congrArg List.length e2
        rw [List.length_map] at l1 l2
        have f1 := List.length_filter_le (fun (n : Nat) => markOf (n : Int) y == 1) (List.range' 0 (L.length : Int).toNat)
        have f2 := List.length_filter_le (fun (n : Nat) => markOf (n : Int) y == -1) (List.range' 0 (L.length : Int).toNat)
        rw [List.length_range'] at f1 f2
        omega
      rw [sameP_f a (by omega) ha (k + 1) (by omega), Option.bind_some, wfm_j1, if_neg (by simp), if_pos rfl, Marks_f, Option.bind_some, if_pos hp, hm]
      dsimp only
      rw [if_pos rfl, sameL_f L (by omega) (fun m hm => by have := h3' m hm; omega) k (by omega), Option.bind_some, if_pos rfl, hk]
      rfl
    · obtain rfl := fm_small hf he
      rw [sameP_f [] (by simp) (fun y hy => by cases hy) (k + 1) (by omega), Option.bind_some, wfm_j1, if_neg (by simp), if_neg he, hk]
      rfl
  | d + 1, k + 1, i, h1, h2, h3 => by
    unfold verditerlaw06_weighFromMarks.l0
    have ih := fm_loop L hL d k (i + 1) (by omega) (by omega) (by omega)
    rw [if_pos (by omega), if_pos (by omega), wrs i (by omega), ih]
    split
    · rw [known_k (by omega)]; rfl
    · rfl
theorem WeighFromMarks (L : List (List Int)) (hl : L.length < 9223372036854775807) : ∃ k, verditerlaw06_weighFromMarks.f k L = some true := by
  refine ⟨3000, ?_⟩
  unfold verditerlaw06_weighFromMarks.f
  by_cases h : (L.length : Int) > 50
  · rw [if_pos h, known_k (by omega)]; rfl
  · rw [if_neg h]
    have := fm_loop L (by omega) L.length 3000 0 (by omega) (by omega) (by omega)
    exact this
end Go.Proofs.Ytdbeochifofdoaa.Pure
end

section
/-! The row of the law WeighFromMarks (after the rows that print.py writes). -/
namespace Go.Proofs.Ytdbeochifofdoaa.weighFromMarks
open Go.ChangeShapes Go.WideShapes Go.ChangeAt Go.RowKit
open Go.ChangeMaps (open_string shut_string)
set_option linter.unusedVariables false
theorem own : ownKnob Try.prog.godebug = none := by kernel_rfl
theorem laidOut : laidOutB Try.prog = true := by kernel_rfl
set_option maxRecDepth 100000 in
theorem lifted (os : Os) (started : os.Started) (H : Type) (enc : TypeId × Value → H) :
    ReturnsInHanded {} Try.checked os 13 .any (Rows.weighFromMarksSpec.pre6 enc Try.prog Try.f13 Rows.weighFromMarksRow.domain false) (Rows.weighFromMarksSpec.post enc Try.prog Try.f13 false true false false) := by
  refine returnsInHanded_of_change_sized (C := Try.checked) own started (by kernel_rfl) Try.func13
    (ChangeSpec.witness6 (enc := enc) (C := Try.checked) false ⟨#[], #[.slice none 0 0], []⟩ 8 (by kernel_rfl) (by kernel_rfl) (by kernel_rfl) (by kernel_rfl)) ?_
  intro W base args ds gs before hval0 hW hcnd hsz0 _
  have hsz : (DataW.weightsEach Try.prog (Try.f13.params.toList ++ Rows.weighFromMarksSpec.plain.varTypes Try.prog) (ds ++ gs)).all (· ≤ reachBytes) = true := hsz0
  have hval : ∀ (j : Nat) t v, Try.f13.params[j]? = some t → args[j]? = some v → Value.okWide Try.prog W .any base t v := hval0
  have hW' := hW
  obtain ⟨p, q, hA0, hV, rfl, hfz, hnd⟩ := hW
  have hA : DataW.TrodAll enc Try.prog W 0 (fun _ => true) true Try.f13.params.toList args.toList ds p := hA0
  rw [Try.params13] at hA hval hsz
  obtain ⟨v0, vs0, d0, ds0, p0, q0, hargs, rfl, rfl, h0, r0⟩ := trodAll_cons hA
  obtain ⟨rfl, rfl, rfl⟩ := trodAll_nil r0
  obtain rfl : args = #[v0] := by cases args; simp_all
  obtain ⟨rfl, rfl⟩ := trodVars_none hV
  obtain ⟨a1, len1, cap1, rfl⟩ := okWide_slice Try.underlying47 (hval 0 47 v0 rfl rfl)
  have k1 := h0
  have lt1 : ∀ x ∈ p0, x.block < W.heap.size := by obtain ⟨m, hm⟩ := k1; exact DataW.trod_lt m _ _ _ hm
  obtain ⟨A, l, ys, e1, hle, hyl, hC, hF, hys⟩ := X.open_table h0 rfl (fun n hn => by
    have := List.all_eq_true.1 hsz n (DataW.weights_mem_each (j := 0) (t := 47) (d := d0) rfl rfl n hn)
    simpa using this)
  obtain ⟨rfl, rfl, rfl⟩ : a1 = A ∧ len1 = l.length ∧ cap1 = ys.length := by injection e1 with h1 h2 h3; exact ⟨h1, h2, h3⟩
  clear hA0 hval0 hsz0 hsz
  obtain ⟨k, hk⟩ := Pure.WeighFromMarks l (by omega)
  refine (X.weighFromMarks_calls k a1 l ys W hC hle hF hyl hys hk).mono fun e W' ⟨he, bel⟩ => ?_
  subst he
  exact ⟨_, rfl, _, _, _, [], _, [], hW', trodAll_mk1 (shut_bool Try.underlying4 _), (trodAll_cons_mk (Below.trod laidOut (by kernel_rfl) (of_decide_eq_true (by kernel_rfl)) k1 bel lt1) trodAll_mk0), rfl, bel.frame _, fun h => by cases h⟩
theorem over : Rows.weighFromMarksRow.holds Try.pinned (OpenSpec.ofChange Rows.weighFromMarksSpec) :=
  OpenClaim.holds_of_wide 13 Try.f13 rfl rfl rfl rfl rfl rfl rfl ⟨rfl, rfl, rfl, rfl, rfl⟩ rfl rfl rfl rfl rfl (by kernel_rfl) Try.func13 (by kernel_rfl)
    (of_decide_eq_true (by kernel_rfl)) (by unfold Func.isWrapper; first | (rw [if_pos (by decide +kernel)]; kernel_rfl) | (rw [if_neg (by decide +kernel)]; exact ⟨rfl, rfl⟩))
    (fun os started H enc _ => lifted os started H enc)
theorem proved : Rows.WeighFromMarksSaid := over
end Go.Proofs.Ytdbeochifofdoaa.weighFromMarks
namespace Go.Proofs.Ytdbeochifofdoaa
/-- The row, under a short name, for the claim. -/
theorem weighFromMarks_holds : Rows.WeighFromMarksSaid := weighFromMarks.proved
end Go.Proofs.Ytdbeochifofdoaa
end
