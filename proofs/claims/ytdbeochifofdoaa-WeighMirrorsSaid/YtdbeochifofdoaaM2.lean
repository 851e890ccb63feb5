/- Mirror exchanges the sides of a weighing, Without leaves a weighing out: for all plans and numbers.
Its conditions: none beyond the statement's own. Part 3 of 5 of the proof. -/
import Derived.ScopeJumps
import Derived.WalkMore
import Derived.Handy
import Derived.WalkSpells
import Derived.Shelf.Abstract
import Derived.Deep.RegionHeld3
import Derived.Laws.CopyOwn
import Derived.Maps.Own
import Derived.DeepKeys4
import Derived.Test.YtdbeochifofdoaaM1
section
/-! weigh.search: a walk through all choices, with a goto. -/
namespace Go.Proofs.Ytdbeochifofdoaa.X
open Go.RowKit Go.Proofs.YtdbeochifofdoaaW.PrintWords Go.Proofs.YtdbeochifofdoaaW.PrintLast Go.Proofs.YtdbeochifofdoaaW.PrintMore
set_option linter.unusedVariables false
set_option linter.unusedSimpArgs false

/-- The least number of which Q holds. -/
noncomputable def muQ (Q : Nat → Prop) : Nat := @Classical.epsilon Nat ⟨0⟩ (fun n => Q n ∧ ∀ m, m < n → ¬ Q m)
theorem muQ_spec (Q : Nat → Prop) (h : ∃ n, Q n) : Q (muQ Q) ∧ ∀ m, m < muQ Q → ¬ Q m := by
  obtain ⟨n, hn⟩ := h
  have key : ∃ n, Q n ∧ ∀ m, m < n → ¬ Q m := by
    induction n using Nat.strongRecOn with
    | _ n ih =>
      by_cases h : ∃ m, m < n ∧ Q m
      · obtain ⟨m, hm, hq⟩ := h
        exact ih m hm hq
      · exact ⟨n, hn, fun m hm hq => h ⟨m, hm, hq⟩⟩
  exact Classical.epsilon_spec key
theorem jump_imp {l : Nat} {J J' : Act → World → Prop} {Q : Exit → Act → World → Prop} (h : ∀ a w, J a w → J' a w) : ∀ (e : Exit) (a : Act) (w : World), Exit.jump l J Q e a w → Exit.jump l J' Q e a w := fun e a w hq => by
  cases e <;> first | exact hq | exact ⟨hq.1, h _ _ hq.2⟩
/-- A scope with jumps back to one label: what holds there bears a number that every pass lowers. -/
theorem scope_ghost {P : Program} {a : Act} {w : World} {Q : Exit → Act → World → Prop} {c rest : Code} (l : Nat) (J : Nat → Act → World → Prop) (hf : findLabel c l = some (Code.skip.seq rest))
    (pass : ∀ n a w, J n a w → rest.wp P (Exit.jump l (fun a' w' => ∃ m, m < n ∧ J m a' w') Q) a w)
    (first : (∀ n a w, J n a w → rest.wp P (Exit.jump l (fun a' w' => ∃ m, J m a' w') Q) a w) → c.wp P (Exit.jump l (fun a' w' => ∃ m, J m a' w') Q) a w) : (Code.scope c).wp P Q a w := by
  refine wp_scope_jumps l (fun a w => ∃ n, J n a w) (fun a w => muQ fun n => J n a w) hf (first fun n a w h => Code.wp_mono (jump_imp fun a w ⟨m, _, hm⟩ => ⟨m, hm⟩) (pass n a w h)) fun a w h => ?_
  refine wp_seq (wp_skip ?_)
  refine Code.wp_mono (jump_imp fun a' w' ⟨m, hlt, hm⟩ => ⟨⟨m, hm⟩, ?_⟩) (pass _ a w (muQ_spec _ h).1)
  rcases Nat.lt_or_ge (muQ fun n => J n a' w') (muQ fun n => J n a w) with h1 | h1
  · exact h1
  · exact absurd hm ((muQ_spec _ ⟨m, hm⟩).2 m (Nat.lt_of_lt_of_le hlt h1))

section
variable (L : List S70) (lots : Int)
/-- The first choices, behind the choices p (the last one first), that go on to the end; r are still to come. -/
def dfs : Nat → List Int → Option (List Int)
  | 0, p => some p
  | r + 1, p => (if possibleB L (0 :: p).reverse lots = true then dfs r (0 :: p) else none).or
      ((if possibleB L (1 :: p).reverse lots = true then dfs r (1 :: p) else none).or (if possibleB L (2 :: p).reverse lots = true then dfs r (2 :: p) else none))
def st (r : Nat) (p : List Int) (d : Int) : Option (List Int) := if possibleB L (d :: p).reverse lots = true then dfs L lots r (d :: p) else none
/-- What is still to come where v was the last choice tried behind p. -/
def restv (r : Nat) (p : List Int) (v : Int) : Option (List Int) :=
  if v = -1 then (st L lots r p 0).or ((st L lots r p 1).or (st L lots r p 2)) else if v = 0 then (st L lots r p 1).or (st L lots r p 2) else if v = 1 then st L lots r p 2 else none
def backv : Nat → List Int → Option (List Int)
  | _, [] => none
  | r, u :: q => (restv L lots (r + 1) q u).or (backv (r + 1) q)
end
def passT : Nat → Nat
  | 0 => 0
  | r + 1 => 3 * (1 + passT r) + 1
def measB : Nat → List Int → Nat
  | _, [] => 0
  | r, u :: q => (2 - u).toNat * (1 + passT (r + 1)) + 1 + measB (r + 1) q
def measP (r : Nat) (p : List Int) (v : Int) : Nat := (2 - v).toNat * (1 + passT r) + 1 + measB r p

theorem classC_len (w : Nat) (h : w ≤ 3) : (classC w).length ≤ 13 := by
  have h27 : (fullC w).length ≤ 27 := by rw [fullC_len]; exact Nat.le_trans (Nat.pow_le_pow_right (by omega) h) (by decide)
  simp [classC]; omega

/-- The answer of the search. -/
def searchA (lots : Int) (w : Nat) : Option (List Int) := if (classC w).length = 0 then none else dfs (classC w) lots (classC w).length []
def searchR (lots : Int) (w : Nat) : List S70 × Bool := match searchA lots w with | some p => (chosenL (classC w) p.reverse, true) | none => ([], false)
def weigh_search.f (a0 a1 : Int) : Option (List S70 × Bool) := if (1 ≤ a0 ∧ a0 ≤ 13) ∧ 0 ≤ a1 ∧ a1 ≤ 3 then some (searchR a0 a1.toNat) else none

/-- Where the search stands at its label: a number that every pass lowers, the place, the choices in memory. -/
def stOk (L : List S70) (lots : Int) (A : Option (List Int)) (m : Nat) (k : Int) (cs : List Int) : Prop :=
  (k = -1 ∧ A = none) ∨ ∃ (p : List Int) (v : Int), k = p.length ∧ p.length < L.length ∧ -1 ≤ v ∧ v ≤ 2 ∧ (∀ u, u ∈ p → 0 ≤ u ∧ u ≤ 2) ∧ cs = p.reverse ++ v :: List.replicate (L.length - p.length - 1) (-1) ∧
    (restv L lots (L.length - p.length - 1) p v).or (backv L lots (L.length - p.length - 1) p) = A ∧ m = measP (L.length - p.length - 1) p v

theorem cs_get (p : List Int) (v : Int) (l : List Int) : (p.reverse ++ v :: l).getD p.length 0 = v := by simp [List.getD_eq_getElem?_getD]
theorem cs_set (p : List Int) (v d : Int) (l : List Int) : (p.reverse ++ v :: l).set p.length d = p.reverse ++ d :: l := by
  rw [List.set_append_right _ _ (by simp)]
  simp
theorem cs_take (p : List Int) (v : Int) (l : List Int) : (p.reverse ++ v :: l).take (p.length + 1) = (v :: p).reverse := by
  rw [List.take_append, List.take_of_length_le (by simp)]
  simp
theorem or_assoc3 {α : Type} (a b c : Option α) : (a.or b).or c = a.or (b.or c) := by cases a <;> simp
theorem restv_step (L : List S70) (lots : Int) (r : Nat) (p : List Int) (v : Int) (h0 : -1 ≤ v) (h1 : v < 2) : restv L lots r p v = (st L lots r p (v + 1)).or (restv L lots r p (v + 1)) := by
  rcases (show v = -1 ∨ v = 0 ∨ v = 1 by omega) with rfl | rfl | rfl <;> simp [restv]
theorem restv_two (L : List S70) (lots : Int) (r : Nat) (p : List Int) : restv L lots r p 2 = none := by simp [restv]
theorem dfs_succ (L : List S70) (lots : Int) (r : Nat) (p : List Int) : dfs L lots (r + 1) p = restv L lots r p (-1) := rfl
theorem measP_step (r : Nat) (p : List Int) (v : Int) (h0 : -1 ≤ v) (h1 : v < 2) : measP r p (v + 1) < measP r p v := by
  unfold measP
  rcases (show v = -1 ∨ v = 0 ∨ v = 1 by omega) with rfl | rfl | rfl <;> simp <;> omega
theorem measP_down (r : Nat) (p : List Int) (v : Int) (h0 : -1 ≤ v) (h1 : v < 2) : measP r ((v + 1) :: p) (-1) < measP (r + 1) p v := by
  show (2 - (-1 : Int)).toNat * (1 + passT r) + 1 + ((2 - (v + 1)).toNat * (1 + passT (r + 1)) + 1 + measB (r + 1) p) < (2 - v).toNat * (1 + passT (r + 1)) + 1 + measB (r + 1) p
  rcases (show v = -1 ∨ v = 0 ∨ v = 1 by omega) with rfl | rfl | rfl <;> simp [passT] <;> omega
theorem measP_up (r : Nat) (q : List Int) (u v : Int) : measP (r + 1) q u < measP r (u :: q) v := by
  unfold measP
  rw [measB]
  omega

set_option maxHeartbeats 16000000 in
set_option maxRecDepth 100000 in
theorem weigh_search.calls (a0 a1 : Int) (r1 : List S70) (r2 : Bool) (w : World) (h : weigh_search.f a0 a1 = some (r1, r2)) :
    Calls Try.prog 50 #[.int .i64 a0, .int .i64 a1] w fun e w' => ∃ v0_ : Value, e = .returned (.tuple #[v0_, .bool r2]) ∧ Kd.R k70 70 w' w.heap.size (fun _ => True) v0_ r1 ∧ Below w.heap.size w w' := by
  unfold weigh_search.f at h
  by_cases hp : (1 ≤ a0 ∧ a0 ≤ 13) ∧ 0 ≤ a1 ∧ a1 ≤ 3
  rotate_left
  · rw [if_neg hp] at h; cases h
  rw [if_pos hp] at h
  obtain ⟨ws, rfl⟩ := Int.eq_ofNat_of_zero_le hp.2.1
  have hws : ws ≤ 3 := by omega
  have hlo := hp.1.1
  have hhi := hp.1.2
  simp only [Int.toNat_natCast] at h
  have HQ := Aside0.mk (Option.some.inj h)
  have hLn := classC_len ws hws
  clear h hp
  go_enter Try.func50, Try.ntmps50
  go_wp2
  refine scope_ghost 0 (fun m a wr => ∃ (w1 : World) (A : Option Addr) (cc g cap : Nat) (k : Int) (cs : List Int) (u15 u16 u17 u18 u19 u20 u21 u22 u23 u24 u25 u26 u27 u28 u29 u30 u31 u32 u33 u34 u35 u36 u37 u38 u39 u40 u41 u42 u43 u44 u45 u46 u47 u48 u49 u50 u51 u52 u53 u54 u55 : Value), a = { tmps := #[.int .i64 a0, .int .i64 ws, undef, undef, .slice none 0 0, .bool false, .slice A (classC ws).length cc, .slice (some ⟨g, 0, none⟩) (classC ws).length cap, .int .i64 k, .int .i64 ws, .slice A (classC ws).length cc, .slice (some ⟨w1.heap.size, 0, none⟩) 1 1, .slice A (classC ws).length cc, .int .i64 (classC ws).length, .slice (some ⟨g, 0, none⟩) (classC ws).length cap, u15, u16, u17, u18, u19, u20, u21, u22, u23, u24, u25, u26, u27, u28, u29, u30, u31, u32, u33, u34, u35, u36, u37, u38, u39, u40, u41, u42, u43, u44, u45, u46, u47, u48, u49, u50, u51, u52, u53, u54, u55], defers := [] } ∧
      Aside0 ((classC ws).length ≠ 0) ∧ Aside0 ((classC ws).length ≤ cc) ∧ Aside0 (Kd.C k70 w1 A (classC ws).length (classC ws)) ∧ Aside0 (Below w.heap.size w w1) ∧ Aside0 (Below w1.heap.size w1 wr) ∧ Aside0 ((Kd.int .i64).R 92 wr w1.heap.size (fun _ => True) (.slice (some ⟨g, 0, none⟩) (classC ws).length cap) cs) ∧ Aside0 (stOk (classC ws) a0 (searchA a0 ws) m k cs)) rfl ?_ ?_
  · generalize hL : classC ws = L at *
    rintro m a wr ⟨w1, A, cc, g, cap, k, cs, u15, u16, u17, u18, u19, u20, u21, u22, u23, u24, u25, u26, u27, u28, u29, u30, u31, u32, u33, u34, u35, u36, u37, u38, u39, u40, u41, u42, u43, u44, u45, u46, u47, u48, u49, u50, u51, u52, u53, u54, u55, rfl, hne, HCC, HC, HB1, HBR, HR, HS⟩
    rcases HS.out with ⟨hk, hA⟩ | ⟨p, v, hk, hpn, hv0, hv2, hdig, hcs, hS, hm⟩
    · subst hk
      have hfin : (([] : List S70), false) = (r1, r2) := by rw [← HQ.out, searchR, hA]
      simp only [Prod.mk.injEq] at hfin
      obtain ⟨rfl, rfl⟩ := hfin
      clear HS hA hL
      go_wp2
      simp only [Exit.jump]
      go_ret2
      exact ⟨_, rfl, Kd.R_nil _ _ _ _ _, HB1.out.trans (HBR.out.mono HB1.out.size)⟩
    subst hk
    have hn0 : ((L.length : Int) == 0) = false := by have := hne.out; simpa using this
    have hcell := Kd.R_celln (0 : Int) HR.out (p.length : Int) (by omega) (by omega)
    rw [show rdOf (0 : Int) cs (p.length : Int) = cs.getD p.length 0 from rfl, hcs, cs_get] at hcell
    obtain ⟨hcv, hcf⟩ := hcell
    simp only [Int.toNat_natCast] at hcv hcf
    have hput := Kd.R_putn HR.out (p.length : Int) (v + 1)
    simp only [Int.toNat_natCast] at hput
    rw [hcs, cs_set] at hput
    have hbase := Kd.R_base HR.out g rfl
    have hB2 := below_set (j := p.length) (v := .int .i64 (v + 1)) HBR.out hbase
    have HPUT := Aside0.mk hput
    have HDG := Aside0.mk hdig
    have hncap : L.length ≤ cap := (Kd.R_reads' HR.out).2.1
    have HB2 := Aside0.mk hB2
    have HSS := Aside0.mk hS
    have HM := Aside0.mk hm
    have HBS := Aside0.mk hbase
    clear HS hS hm hput hB2 hbase hcs HR HBR hdig
    by_cases hv : v = 2
    · subst hv
      have hp3 : (Kd.int .i64).R 92 (wr.setCell ⟨g, p.length, none⟩ (.int .i64 3)) w1.heap.size (fun _ => True) (.slice (some ⟨g, 0, none⟩) L.length cap) (p.reverse ++ 3 :: List.replicate (L.length - p.length - 1) (-1)) := HPUT.out
      have hp4 := Kd.R_putn hp3 (p.length : Int) (-1)
      simp only [Int.toNat_natCast] at hp4
      rw [cs_set] at hp4
      have HP4 := Aside0.mk hp4
      have HB4 := Aside0.mk (below_set (j := p.length) (v := .int .i64 (-1)) HB2.out HBS.out)
      clear hp3 hp4
      go_wp2
      go_step3
      cases p with
      | nil =>
        refine ⟨rfl, 0, by rw [HM.out]; simp [measP, measB], w1, A, cc, g, cap, _, _, _, _, _, _, _, _, _, _, _, _, _, _, _, _, _, _, _, _, _, _, _, _, _, _, _, _, _, _, _, _, _, _, _, _, _, _, _, _, _, _, _, rfl, hne, HCC, HC, HB1, HB4, HP4, ⟨.inl ⟨by simp, ?_⟩⟩⟩
        rw [← HSS.out, restv_two]
        rfl
      | cons u q =>
        have hu := HDG.out u List.mem_cons_self
        have hql : (u :: q).length = q.length + 1 := rfl
        have hr1 : L.length - q.length - 1 = (L.length - (u :: q).length - 1) + 1 := by omega
        refine ⟨rfl, measP (L.length - q.length - 1) q u, by rw [HM.out, hr1]; exact measP_up _ q u 2, w1, A, cc, g, cap, _, _, _, _, _, _, _, _, _, _, _, _, _, _, _, _, _, _, _, _, _, _, _, _, _, _, _, _, _, _, _, _, _, _, _, _, _, _, _, _, _, _, _, rfl, hne, HCC, HC, HB1, HB4, HP4, ⟨.inr ⟨q, u, by rw [hql]; omega, by omega, by omega, hu.2, fun x hx => HDG.out x (List.mem_cons_of_mem _ hx), ?_, ?_, rfl⟩⟩⟩
        · rw [hr1, List.replicate_succ]
          simp
        · rw [← HSS.out, restv_two, hr1]
          rfl
    · have hv1 : v < 2 := by omega
      have hd3 : (v + 1 == 3) = false := by simp; omega
      have htk := Kd.R_take HPUT.out (m := p.length + 1) (by simp)
      rw [cs_take] at htk
      have hlr : ((v + 1) :: p).reverse.length = p.length + 1 := by simp
      have hCt := (Kd.R_reads' htk).2.2
      have hcall := possible_calls A cc L (some ⟨g, 0, none⟩) cap ((v + 1) :: p).reverse a0 _ (Kd.C_below HC.out HB2.out) HCC.out hCt (by rw [hlr]; omega) (by rw [hlr]; omega) hLn (by omega) hhi
      rw [hlr] at hcall
      have HCALL := Aside0.mk hcall
      clear htk hlr hCt hcall
      have hk1 : (p.length : Int) + 1 ≤ cap := by omega
      go_wp2_with fail
      refine HCALL.out.mono ?_
      rintro e w' ⟨rfl, hb⟩
      have HBn := Aside0.mk (HB2.out.trans (hb.mono HB2.out.size))
      have HRn := Aside0.mk (Kd.R_below HPUT.out hb)
      clear hb HCALL HPUT
      cases hpo : possibleB L ((v + 1) :: p).reverse a0 with
      | false =>
        have HPO := Aside0.mk hpo
        clear hpo
        go_wp2
        go_step3
        refine ⟨rfl, measP (L.length - p.length - 1) p (v + 1), by rw [HM.out]; exact measP_step _ p v hv0 hv1, w1, A, cc, g, cap, _, _, _, _, _, _, _, _, _, _, _, _, _, _, _, _, _, _, _, _, _, _, _, _, _, _, _, _, _, _, _, _, _, _, _, _, _, _, _, _, _, _, _, rfl, hne, HCC, HC, HB1, HBn, HRn, ⟨.inr ⟨p, v + 1, rfl, hpn, by omega, by omega, HDG.out, rfl, ?_, rfl⟩⟩⟩
        rw [← HSS.out, restv_step L a0 _ p v hv0 hv1, st, if_neg (by rw [HPO.out]; simp)]
        rfl
      | true =>
        have HPO := Aside0.mk hpo
        clear hpo
        by_cases hlast : p.length + 1 = L.length
        · have hq : ((p.length : Int) == (L.length : Int) - 1) = true := by simp; omega
          have hr0 : L.length - p.length - 1 = 0 := by omega
          have hAns : searchA a0 ws = some ((v + 1) :: p) := by
            rw [← HSS.out, hr0, restv_step L a0 _ p v hv0 hv1, st, if_pos HPO.out]
            rfl
          have hfin : (chosenL L ((v + 1) :: p).reverse, true) = (r1, r2) := by rw [← HQ.out, searchR, hAns, hL]
          simp only [Prod.mk.injEq] at hfin
          obtain ⟨rfl, rfl⟩ := hfin
          have hcl : p.reverse ++ (v + 1) :: List.replicate (L.length - p.length - 1) (-1) = ((v + 1) :: p).reverse := by rw [hr0]; simp
          rw [hcl] at HRn
          have hlr : ((v + 1) :: p).reverse.length = L.length := by simp; omega
          have hCt := (Kd.R_reads' HRn.out).2.2
          have hch := weigh_chosen.calls _ A cc L (some ⟨g, 0, none⟩) cap ((v + 1) :: p).reverse (chosenL L ((v + 1) :: p).reverse) w' (Kd.C_below HC.out HBn.out) HCC.out hCt (by rw [hlr]; exact hncap) (chosen_f L _ (by rw [hlr]; exact Nat.le_refl _) (by omega))
          rw [hlr] at hch
          have HCH := Aside0.mk hch
          clear hch hCt hlr hcl hAns
          go_wp2_with fail
          refine HCH.out.mono ?_
          rintro e w3 ⟨vc, rfl, hR3, hb3⟩
          have HR3 := Aside0.mk (Kd.R_lower hR3 (Nat.le_trans HB1.out.size HBn.out.size))
          have HB3 := Aside0.mk ((HB1.out.trans (HBn.out.mono HB1.out.size)).trans (hb3.mono (Nat.le_trans HB1.out.size HBn.out.size)))
          clear hR3 hb3 HCH
          go_wp2
          simp only [Exit.jump]
          go_ret2
          exact ⟨_, rfl, HR3.out, HB3.out⟩
        · have hq : ((p.length : Int) == (L.length : Int) - 1) = false := by simp; omega
          have hql : ((v + 1) :: p).length = p.length + 1 := rfl
          have hr1 : L.length - p.length - 1 = (L.length - ((v + 1) :: p).length - 1) + 1 := by omega
          go_wp2
          go_step3
          refine ⟨rfl, measP (L.length - ((v + 1) :: p).length - 1) ((v + 1) :: p) (-1), by rw [HM.out, hr1]; exact measP_down _ p v hv0 hv1, w1, A, cc, g, cap, _, _, _, _, _, _, _, _, _, _, _, _, _, _, _, _, _, _, _, _, _, _, _, _, _, _, _, _, _, _, _, _, _, _, _, _, _, _, _, _, _, _, _, rfl, hne, HCC, HC, HB1, HBn, HRn, ⟨.inr ⟨(v + 1) :: p, -1, by rw [hql]; omega, by omega, by omega, by omega, fun x hx => ?_, ?_, ?_, rfl⟩⟩⟩
          · rcases List.mem_cons.1 hx with rfl | hx
            · omega
            · exact HDG.out x hx
          · rw [hr1, List.replicate_succ]
            simp
          · have h := HSS.out
            rw [hr1, restv_step L a0 _ p v hv0 hv1, st, if_pos HPO.out, or_assoc3, dfs_succ] at h
            exact h
  · intro hpass
    have HPASS := Aside0.mk hpass
    clear hpass
    go_wp2_with fail
    refine (classes_calls ws hws _).mono ?_
    rintro e w1 ⟨A, cc, rfl, hcc, hC, hb⟩
    have HC := Aside0.mk hC
    have HB := Aside0.mk hb
    have HCC := Aside0.mk hcc
    clear hC hb hcc
    go_wp2_with fail
    refine (repeat_calls (classC ws).length hLn (-1) w1.heap.size 1 _ ?hx).mono ?_
    case hx => exact blk_cell (blk_new w1 _) 0
    rintro e w2 ⟨v, rfl, hR, hb⟩
    rw [show (w1.alloc (.cells #[.int .i64 (-1)] 92)).heap.size = w1.heap.size + 1 from by simp] at hR hb
    have HR := Aside0.mk (Kd.R_lower hR (Nat.le_succ _))
    have HB2 := Aside0.mk ((below_alloc (Below.refl _ w1) (.cells #[.int .i64 (-1)] 92)).trans (hb.mono (Nat.le_succ _)))
    clear hR hb
    go_wp2_with fail
    by_cases hn : (classC ws).length = 0
    · have hfin : (([] : List S70), false) = (r1, r2) := by rw [← HQ.out, searchR, searchA, if_pos hn]
      simp only [Prod.mk.injEq] at hfin
      obtain ⟨rfl, rfl⟩ := hfin
      obtain ⟨Av, cv, rfl⟩ := Kd.R_slice HR.out
      have hn0 : (((classC ws).length : Int) == 0) = true := by simp [hn]
      clear HPASS
      go_step3
      go_wp2
      simp only [Exit.jump]
      go_ret2
      exact ⟨_, rfl, Kd.R_nil _ _ _ _ _, HB.out.trans (HB2.out.mono HB.out.size)⟩
    · obtain ⟨g, cap, hv, hg1, hg2, hg3⟩ := Kd.R_form HR.out (by simp; omega)
      rw [List.length_replicate] at hv
      subst hv
      clear hg1 hg2 hg3
      go_step3
      rename_i K0 hK0
      refine hK0 _ _ (HPASS.out (measP ((classC ws).length - 1) [] (-1)) _ _ ⟨w1, A, cc, g, cap, 0, List.replicate (classC ws).length (-1), _, _, _, _, _, _, _, _, _, _, _, _, _, _, _, _, _, _, _, _, _, _, _, _, _, _, _, _, _, _, _, _, _, _, _, _, _, _, _, _, _, rfl, ⟨hn⟩, HCC, HC, HB, HB2, HR, ⟨.inr ⟨[], -1, rfl, by simp; omega, by omega, by omega, (fun u hu => by cases hu), ?_, ?_, rfl⟩⟩⟩)
      · simp
        rw [← List.replicate_succ]
        congr 1
        omega
      · rw [searchA, if_neg hn]
        obtain ⟨n, hn1⟩ : ∃ n, (classC ws).length = n + 1 := ⟨(classC ws).length - 1, by omega⟩
        rw [hn1]
        simp only [List.length_nil, Nat.sub_zero, Nat.add_sub_cancel, backv, dfs_succ]
        simp
end Go.Proofs.Ytdbeochifofdoaa.X
end

section
/-! weigh.FromMarks. -/
namespace Go.Proofs.Ytdbeochifofdoaa.X
open Go.RowKit Go.Proofs.YtdbeochifofdoaaW.PrintWords Go.Proofs.YtdbeochifofdoaaW.PrintLast Go.Proofs.YtdbeochifofdoaaW.PrintMore
set_option linter.unusedVariables false
set_option linter.unusedSimpArgs false

/-- The numbers, from n on, of the marks that have s at k. -/
def sideI (k : Nat) (s : Int) : Nat → List (List Int) → List Int
  | _, [] => []
  | n, m :: q => if m.getD k 0 = s then (n : Int) :: sideI k s (n + 1) q else sideI k s (n + 1) q
end Go.Proofs.Ytdbeochifofdoaa.X
end

section
/-! Marks, and the plan of marks. -/
namespace Go.Proofs.Ytdbeochifofdoaa.X
open Go.RowKit Go.Proofs.YtdbeochifofdoaaW.PrintWords Go.Proofs.YtdbeochifofdoaaW.PrintLast
set_option linter.unusedVariables false
set_option linter.unusedSimpArgs false

/-- The marks of the lots. -/
def marksV (lots : Int) (l : List S53) : List (List Int) := (List.range lots.toNat).map fun n => refMark l (n : Nat)
/-- An ascending list of numbers below c. -/
theorem asc_of_set (c : Int) : ∀ (xs : List Int) (p : Option Int), setFrom c p xs = true → (∀ x, x ∈ xs → 0 ≤ x ∧ x < c ∧ ∀ q, p = some q → q < x) ∧ xs.Pairwise (· < ·)
  | [], p, _ => ⟨fun x hx => (by cases hx), List.Pairwise.nil⟩
  | x :: xs, p, h => by
    rw [setFrom_cons] at h
    simp only [Bool.and_eq_true, decide_eq_true_eq] at h
    obtain ⟨⟨⟨h0, h1⟩, h2⟩, h3⟩ := h
    have ih := asc_of_set c xs (some x) h3
    have hpx : ∀ q, p = some q → q < x := by
      intro q hq
      subst hq
      simpa [aboveB] using h2
    refine ⟨fun y hy => ?_, List.Pairwise.cons (fun y hy => (ih.1 y hy).2.2 x rfl) ih.2⟩
    rcases List.mem_cons.1 hy with rfl | hy
    · exact ⟨h0, by omega, hpx⟩
    · have := ih.1 y hy
      exact ⟨this.1, this.2.1, fun q hq => by have := this.2.2 x rfl; have := hpx q hq; omega⟩
theorem filter_asc : ∀ (d lo : Nat) (xs : List Int), xs.Pairwise (· < ·) → (∀ x, x ∈ xs → (lo : Int) ≤ x ∧ x < ((lo + d : Nat) : Int)) → ((List.range' lo d).filter (fun (n : Nat) => xs.contains (n : Int))).map (fun n => ((n : Nat) : Int)) = xs
  | 0, lo, xs, _, hb => by
    match xs, hb with
    | [], _ => rfl
    | x :: xs, hb =>
      have := hb x List.mem_cons_self
      omega
  | d + 1, lo, [], _, _ => by simp
  | d + 1, lo, x :: xs, hp, hb => by
    rw [List.pairwise_cons] at hp
    have hx := hb x List.mem_cons_self
    rw [List.range'_succ, List.filter_cons]
    by_cases he : (lo : Int) = x
    · have hc : (x :: xs).contains (lo : Int) = true := by simp [he]
      rw [if_pos hc, List.map_cons]
      have ih := filter_asc d (lo + 1) xs hp.2 (fun y hy => by
        have h1 := hp.1 y hy
        have h2 := hb y (List.mem_cons_of_mem _ hy)
        omega)
      rw [he]
      congr 1
      rw [← ih]
      congr 1
      rw [ih]
      refine List.filter_congr fun n hn => ?_
      rw [List.mem_range'_1] at hn
      rw [List.contains_cons]
      have : ((n : Int) == x) = false := by rw [beq_eq_false_iff_ne]; omega
      rw [this, Bool.false_or]
    · have hc : (x :: xs).contains (lo : Int) = false := by
        rw [List.contains_eq_any_beq, List.any_eq_false]
        intro y hy
        have : (lo : Int) ≠ y := by
          rcases List.mem_cons.1 hy with rfl | hy
          · exact he
          · have := hp.1 y hy
            omega
        simpa using this
      rw [if_neg (by rw [hc]; simp)]
      exact filter_asc d (lo + 1) (x :: xs) (List.pairwise_cons.2 hp) (fun y hy => by
        have h2 := hb y hy
        rcases List.mem_cons.1 hy with rfl | hy
        · omega
        · have := hp.1 y hy
          omega)
theorem sideI_map (k : Nat) (s : Int) (g : Nat → List Int) : ∀ (m n : Nat), sideI k s n ((List.range' n m).map g) = ((List.range' n m).filter (fun j => (g j).getD k 0 == s)).map (fun n => ((n : Nat) : Int))
  | 0, n => by simp [sideI]
  | m + 1, n => by
    rw [List.range'_succ, List.map_cons, List.filter_cons]
    unfold sideI
    rw [sideI_map k s g m (n + 1)]
    by_cases h : (g n).getD k 0 = s
    · rw [if_pos h, if_pos (beq_iff_eq.2 h)]; rfl
    · rw [if_neg h, if_neg (by simpa using h)]
theorem refMark_get (l : List S53) (n : Int) (k : Nat) (hk : k < l.length) : (refMark l n).getD k 0 = markOf n (l.getD k z53) := by
  simp [refMark, List.getD_eq_getElem?_getD, List.getElem?_map, List.getElem?_eq_getElem hk]
/-- The sides of a weighing, out of the marks. -/
theorem side_left {lots : Int} {y : S53} (h : OkW lots y) (hl : 0 ≤ lots) : ((List.range' 0 lots.toNat).filter (fun (n : Nat) => markOf (n : Int) y == 1)).map (fun n => ((n : Nat) : Int)) = y.f0 := by
  have ha := asc_of_set lots y.f0 none h.lset
  have e := filter_asc lots.toNat 0 y.f0 ha.2 (fun x hx => by have := ha.1 x hx; omega)
  refine (congrArg (List.map fun (n : Nat) => (n : Int)) (List.filter_congr fun n hn => ?_)).trans e
  unfold markOf
  cases h1 : y.f1.contains (n : Int) with
  | true =>
    have : y.f0.contains (n : Int) = false := by
      cases h0 : y.f0.contains (n : Int) with
      | false => rfl
      | true => exact absurd (by simpa using h1) (h.apart _ (by simpa using h0))
    rw [this]; rfl
  | false => cases y.f0.contains (n : Int) <;> rfl
theorem side_right {lots : Int} {y : S53} (h : OkW lots y) (hl : 0 ≤ lots) : ((List.range' 0 lots.toNat).filter (fun (n : Nat) => markOf (n : Int) y == -1)).map (fun n => ((n : Nat) : Int)) = y.f1 := by
  have ha := asc_of_set lots y.f1 none h.rset
  have e := filter_asc lots.toNat 0 y.f1 ha.2 (fun x hx => by have := ha.1 x hx; omega)
  refine (congrArg (List.map fun (n : Nat) => (n : Int)) (List.filter_congr fun n hn => ?_)).trans e
  unfold markOf
  cases y.f1.contains (n : Int) with
  | true => rfl
  | false => cases y.f0.contains (n : Int) <;> rfl
theorem sides {lots : Int} {l : List S53} (hp : pErr lots l = 0) (k : Nat) (hk : k < l.length) : sideI k 1 0 (marksV lots l) = (l.getD k z53).f0 ∧ sideI k (-1) 0 (marksV lots l) = (l.getD k z53).f1 := by
  have ok := pErr_ok hp
  have hlo := ok.lo
  have hw := ok.each _ (mem_getD z53 l k hk)
  unfold marksV
  rw [List.range_eq_range', sideI_map, sideI_map]
  simp only [refMark_get l _ k hk]
  exact ⟨side_left hw (by omega), side_right hw (by omega)⟩
end Go.Proofs.Ytdbeochifofdoaa.X
end

section
-- Written by a program of this session (wip/hook.py, which runs the kit's print.py with contracts proved by hand). Not trusted: Lean checks it.
namespace Go.Proofs.Ytdbeochifofdoaa.X
open Go.RowKit Go.Proofs.YtdbeochifofdoaaW.PrintWords Go.Proofs.YtdbeochifofdoaaW.PrintLast Go.Proofs.YtdbeochifofdoaaW.PrintMore
attribute [local go_sem] max2_int min2_int max_two min_two max_three min_three max_four min_four   -- for this text's walks alone
set_option linter.unusedVariables false
set_option linter.unusedSimpArgs false

/-! ### weigh_numbered: function 107 -/
def weigh_numbered.f (a0 : Int) (l1 : List (S53)) (a2 : Int) : Option (Int) := (weigh_Validate.f a0 l1).bind fun t643 => (if t643 = 0 then ((weigh_within.f a2 0 (wrap64 ((l1.length : Int) - 1))).bind fun t644 => (if t644 = true then (some 0) else (some 4))) else (some t643))
set_option maxHeartbeats 8000000 in
set_option maxRecDepth 100000 in
theorem weigh_numbered.calls (a0 : Int) (A1 : Option Addr) (c1 : Nat) (l1 : List (S53)) (a2 : Int) (r : Int) (w : World) (hr1 : Kd.C k53 w A1 l1.length l1) (hc1 : l1.length ≤ c1) (h : weigh_numbered.f a0 l1 a2 = some r) :
    Calls Try.prog 107 #[.int .i64 a0, .slice A1 l1.length c1, .int .i64 a2] w fun e w' => e = .returned (.int .i64 r) ∧ Below w.heap.size w w' := by
  have HR1 := Aside0.mk hr1
  have HC1 := Aside0.mk hc1
  clear hr1 hc1
  have HB := Aside0.mk (Below.refl w.heap.size w)
  have H : ((weigh_Validate.f a0 l1).bind fun t643 => (if t643 = 0 then ((weigh_within.f a2 0 (wrap64 ((l1.length : Int) - 1))).bind fun t644 => (if t644 = true then (some 0) else (some 4))) else (some t643))) = some r := h
  clear h
  replace H := Option.bind_eq_some_iff.mp H
  obtain ⟨t643, A40, H⟩ := H
  replace H : (if t643 = 0 then ((weigh_within.f a2 0 (wrap64 ((l1.length : Int) - 1))).bind fun t644 => (if t644 = true then (some 0) else (some 4))) else (some t643)) = some r := H
  have A4 := Aside0.mk A40
  clear A40
  by_cases c5 : t643 = 0
  · rw [if_pos c5] at H
    have c5b0 : (t643 == 0) = true := beq_iff_eq.mpr c5
    have c5b1 : (t643 != 0) = false := bne_eq_false_iff_eq.mpr c5
    clear c5
    replace H := Option.bind_eq_some_iff.mp H
    obtain ⟨t644, A60, H⟩ := H
    replace H : (if t644 = true then (some 0) else (some 4)) = some r := H
    have A6 := Aside0.mk A60
    clear A60
    by_cases c7 : t644 = true
    · subst c7
      have H1 : (some 0) = some r := by rw [if_pos rfl] at H; exact H
      clear H
      have H := H1
      clear H1
      obtain rfl := Option.some.inj H
      go_enter Try.func107, Try.ntmps107
      go_wp2_with (first | ((with_reducible refine gate_callee (f := 58) rfl ?_); refine goesL_ (some 10) rfl rfl Try.func58 (by kernel_rfl) rfl #[.int .i64 a0, .slice A1 l1.length c1] rfl (by (try simp only [List.map_toArray, List.map_cons, List.map_nil]); first | done | rfl | (simp only [List.length_drop, List.length_take]; rfl)) ?_; (with_reducible refine (weigh_Validate.calls a0 _ _ l1 t643 _ ?side1 ?side2 A4.out).mono ?_); (case side1 => repeat (first | exact HR1.out | (with_reducible refine Kd.C_alloc ?_ _) | (with_reducible refine Kd.C_drewN ?_ _) | (with_reducible refine Kd.C_drew ?_))); (case side2 => exact HC1.out); rintro e w8 ⟨rfl, hb⟩; refine ⟨_, rfl, ?_⟩; have n0_ := Aside0.mk (below_step (by repeat (first | (with_reducible first | exact HB.out | apply below_alloc | apply pw_below_drewN | apply below_drew1) | exact HB.out)) hb); clear HB; have HB := n0_; clear n0_; (try clear hb); (try clear hb2); (try clear hk); (try clear hi)) | ((with_reducible refine gate_callee (f := 85) rfl ?_); refine goesL_ (some 18) rfl rfl Try.func85 (by kernel_rfl) rfl #[.int .i64 a2, .int .i64 0, .int .i64 (wrap64 ((l1.length : Int) - 1))] rfl (by (try simp only [List.map_toArray, List.map_cons, List.map_nil]); first | done | rfl | (simp only [List.length_drop, List.length_take]; rfl)) ?_; (with_reducible refine (weigh_within.calls a2 0 (wrap64 ((l1.length : Int) - 1)) true _ A6.out).mono ?_); rintro e w' ⟨rfl, ⟨nd, rfl⟩⟩; refine ⟨_, rfl, ?_⟩))
      go_ret
      exact ⟨by first | rfl | (simp [errW_none, errW_some] <;> rfl) | (simp [*, errW_none, errW_some] <;> rfl), by repeat (first | (with_reducible first | exact HB.out | apply below_alloc | apply pw_below_drewN | apply below_drew1) | exact HB.out)⟩
    · replace c7 := Bool.eq_false_iff.mpr c7
      subst c7
      have H1 : (some 4) = some r := by rw [if_neg (show ¬ (false = true) by decide)] at H; exact H
      clear H
      have H := H1
      clear H1
      obtain rfl := Option.some.inj H
      go_enter Try.func107, Try.ntmps107
      go_wp2_with (first | ((with_reducible refine gate_callee (f := 58) rfl ?_); refine goesL_ (some 10) rfl rfl Try.func58 (by kernel_rfl) rfl #[.int .i64 a0, .slice A1 l1.length c1] rfl (by (try simp only [List.map_toArray, List.map_cons, List.map_nil]); first | done | rfl | (simp only [List.length_drop, List.length_take]; rfl)) ?_; (with_reducible refine (weigh_Validate.calls a0 _ _ l1 t643 _ ?side1 ?side2 A4.out).mono ?_); (case side1 => repeat (first | exact HR1.out | (with_reducible refine Kd.C_alloc ?_ _) | (with_reducible refine Kd.C_drewN ?_ _) | (with_reducible refine Kd.C_drew ?_))); (case side2 => exact HC1.out); rintro e w9 ⟨rfl, hb⟩; refine ⟨_, rfl, ?_⟩; have n0_ := Aside0.mk (below_step (by repeat (first | (with_reducible first | exact HB.out | apply below_alloc | apply pw_below_drewN | apply below_drew1) | exact HB.out)) hb); clear HB; have HB := n0_; clear n0_; (try clear hb); (try clear hb2); (try clear hk); (try clear hi)) | ((with_reducible refine gate_callee (f := 85) rfl ?_); refine goesL_ (some 18) rfl rfl Try.func85 (by kernel_rfl) rfl #[.int .i64 a2, .int .i64 0, .int .i64 (wrap64 ((l1.length : Int) - 1))] rfl (by (try simp only [List.map_toArray, List.map_cons, List.map_nil]); first | done | rfl | (simp only [List.length_drop, List.length_take]; rfl)) ?_; (with_reducible refine (weigh_within.calls a2 0 (wrap64 ((l1.length : Int) - 1)) false _ A6.out).mono ?_); rintro e w' ⟨rfl, ⟨nd, rfl⟩⟩; refine ⟨_, rfl, ?_⟩))
      go_ret
      exact ⟨by first | rfl | (simp [errW_none, errW_some] <;> rfl) | (simp [*, errW_none, errW_some] <;> rfl), by repeat (first | (with_reducible first | exact HB.out | apply below_alloc | apply pw_below_drewN | apply below_drew1) | exact HB.out)⟩
  · rw [if_neg c5] at H
    have c5b0 : (t643 == 0) = false := beq_eq_false_iff_ne.mpr c5
    have c5b1 : (t643 != 0) = true := bne_iff_ne.mpr c5
    obtain rfl := Option.some.inj H
    go_enter Try.func107, Try.ntmps107
    go_wp2_with (first | ((with_reducible refine gate_callee (f := 58) rfl ?_); refine goesL_ (some 10) rfl rfl Try.func58 (by kernel_rfl) rfl #[.int .i64 a0, .slice A1 l1.length c1] rfl (by (try simp only [List.map_toArray, List.map_cons, List.map_nil]); first | done | rfl | (simp only [List.length_drop, List.length_take]; rfl)) ?_; (with_reducible refine (weigh_Validate.calls a0 _ _ l1 t643 _ ?side1 ?side2 A4.out).mono ?_); (case side1 => repeat (first | exact HR1.out | (with_reducible refine Kd.C_alloc ?_ _) | (with_reducible refine Kd.C_drewN ?_ _) | (with_reducible refine Kd.C_drew ?_))); (case side2 => exact HC1.out); rintro e w10 ⟨rfl, hb⟩; refine ⟨_, rfl, ?_⟩; have n0_ := Aside0.mk (below_step (by repeat (first | (with_reducible first | exact HB.out | apply below_alloc | apply pw_below_drewN | apply below_drew1) | exact HB.out)) hb); clear HB; have HB := n0_; clear n0_; (try clear hb); (try clear hb2); (try clear hk); (try clear hi)))
    go_ret
    exact ⟨by first | rfl | (simp [errW_none, errW_some] <;> rfl) | (simp [*, errW_none, errW_some] <;> rfl), by repeat (first | (with_reducible first | exact HB.out | apply below_alloc | apply pw_below_drewN | apply below_drew1) | exact HB.out)⟩

end Go.Proofs.Ytdbeochifofdoaa.X
end

section
-- Written by a program of this session (wip/hook.py, which runs the kit's print.py with contracts proved by hand). Not trusted: Lean checks it.
namespace Go.Proofs.Ytdbeochifofdoaa.X
open Go.RowKit Go.Proofs.YtdbeochifofdoaaW.PrintWords Go.Proofs.YtdbeochifofdoaaW.PrintLast Go.Proofs.YtdbeochifofdoaaW.PrintMore
attribute [local go_sem] max2_int min2_int max_two min_two max_three min_three max_four min_four   -- for this text's walks alone
set_option linter.unusedVariables false
set_option linter.unusedSimpArgs false

/-! ### weigh_copied: function 108 -/
def weigh_copied.l0 : Nat → List (S53) → List (S53) → Int → Int → Option ((List (S53)))
  | 0, _, _, _, _ => none
  | k + 1, x3, x6, x7, x8 => if x8 < x7 then (if 0 ≤ x8 then (if x8 < (x6.length : Int) then ((slices_Clone_int_int.f ((rd_T53 x6 x8).f0)).bind fun t647 => ((slices_Clone_int_int.f ((rd_T53 x6 x8).f1)).bind fun t650 => (if x3.length < 2932031007402 then (weigh_copied.l0 k (x3 ++ [(⟨t647, t650⟩ : S53)]) x6 x7 (wrap64 (x8 + 1))) else (none)))) else (none)) else (none)) else (some x3)
def weigh_copied.f (k : Nat) (l0 : List (S53)) : Option ((List (S53))) := weigh_copied.l0 k ([] : List (S53)) l0 (l0.length : Int) 0
def weigh_copied.T5 : Bool × List (List Nat × List Nat) := (true, [([], []), ([], []), ([1], [1]), ([2], [2]), ([], []), ([4], [4]), ([5, 3], [5]), ([3, 6], [3, 6]), ([7], [7]), ([0, 8, 6], [0, 8]), ([9, 9, 0, 1, 2, 3, 4, 5, 6, 7, 8, 9], [0, 9])])
def weigh_copied.B5 : List Nat := [0, 0, 2, 6, 0, 16, 62, 126, 254, 511, 1023]
theorem weigh_copied.tab5 : rtab .any (opsOf Try.f108 5) = weigh_copied.T5 := by kernel_rfl
theorem weigh_copied.bits5 : waitsOk weigh_copied.T5.2 weigh_copied.B5 = true := by kernel_rfl
set_option maxHeartbeats 8000000 in
set_option maxRecDepth 100000 in
theorem weigh_copied.calls (k : Nat) (A0 : Option Addr) (c0 : Nat) (l0 : List (S53)) (r : List (S53)) (w : World) (hr0 : Kd.C k53 w A0 l0.length l0) (hc0 : l0.length ≤ c0) (h : weigh_copied.f k l0 = some r) :
    Calls Try.prog 108 #[.slice A0 l0.length c0] w fun e w' => ∃ v0_ : Value, e = .returned (v0_) ∧ Kd.S k53 53 w' w.heap.size (fun _ => True) v0_ r ∧ Below w.heap.size w w' := by
  have hu53 := Try.underlying53
  have HR0 := Aside0.mk hr0
  have HC0 := Aside0.mk hc0
  clear hr0 hc0
  have HB := Aside0.mk (Below.refl w.heap.size w)
  have H : (weigh_copied.l0 k ([] : List (S53)) l0 (l0.length : Int) 0) = some r := h
  clear h
  have H' := Aside0.mk H
  clear H
  go_enter Try.func108, Try.ntmps108
  go_wp2
  go_loopg [3, 8] k (fun kq v3 v8 w' => ∃ (x3_1 : List (S53)) (x8_1 : Int), v8 = .int .i64 x8_1 ∧ Aside0 (weigh_copied.l0 kq x3_1 l0 (l0.length : Int) x8_1 = some r) ∧ Aside0 (kq ≤ k) ∧ Aside0 (Kd.S k53 53 w' w.heap.size (fun _ => True) v3 x3_1) ∧ Aside0 (Below w.heap.size w w'))
  case atStart => exact ⟨(([] : List (S53))), (0), (by first | rfl | (simp; done) | (simp [*]; done)), H', ⟨Nat.le_refl _⟩, ⟨by first | exact Kd.S_nil _ _ _ _ _ | exact Kd.N_nil _ _ _ _ _ | exact Kd.V_nil _ _ _ _ _ | exact Kd.Q_nil _ _ _ _ _ | exact Kd.R_nil _ _ _ _ _⟩, ⟨by repeat (first | (with_reducible first | exact HB.out | apply below_alloc | apply pw_below_drewN | apply below_drew1) | exact HB.out)⟩⟩
  case round =>
    clear H'
    try clear c1
    obtain ⟨x3_1, x8_1, rfl, HA, HK1, HO_3, HB⟩ := hrel
    cases gk with
    | zero => exact absurd HA.out (by simp [weigh_copied.l0])
    | succ k1 =>
      have H := HA.out
      clear HA
      simp only [weigh_copied.l0] at H
      by_cases c2 : x8_1 < (l0.length : Int)
      · rw [if_pos c2] at H
        have c2b0 : decide (x8_1 < (l0.length : Int)) = true := decide_eq_true c2
        clear c2
        by_cases c3 : 0 ≤ x8_1
        · rw [if_pos c3] at H
          have c3b0 : decide (0 ≤ x8_1) = true := decide_eq_true c3
          clear c3
          by_cases c4 : x8_1 < (l0.length : Int)
          · rw [if_pos c4] at H
            have c4b0 : decide (x8_1 < (l0.length : Int)) = true := decide_eq_true c4
            clear c4
            replace H := Option.bind_eq_some_iff.mp H
            obtain ⟨t647, A50, H⟩ := H
            replace H : ((slices_Clone_int_int.f ((rd_T53 l0 x8_1).f1)).bind fun t650 => (if x3_1.length < 2932031007402 then (weigh_copied.l0 k1 (x3_1 ++ [(⟨t647, t650⟩ : S53)]) l0 (l0.length : Int) (wrap64 (x8_1 + 1))) else (none))) = some r := H
            have A5 := Aside0.mk A50
            clear A50
            replace H := Option.bind_eq_some_iff.mp H
            obtain ⟨t650, A60, H⟩ := H
            replace H : (if x3_1.length < 2932031007402 then (weigh_copied.l0 k1 (x3_1 ++ [(⟨t647, t650⟩ : S53)]) l0 (l0.length : Int) (wrap64 (x8_1 + 1))) else (none)) = some r := H
            have A6 := Aside0.mk A60
            clear A60
            by_cases c7 : x3_1.length < 2932031007402
            · rw [if_pos c7] at H
              have LMc7 := Aside0.mk c7
              clear c7
              obtain ⟨y653, hy653⟩ : ∃ y_ : List (S53), y_ = (x3_1 ++ [(⟨t647, t650⟩ : S53)]) := ⟨_, rfl⟩
              replace H : (weigh_copied.l0 k1 y653 l0 (l0.length : Int) (wrap64 (x8_1 + 1))) = some r := by first | (rw [hy653]; with_reducible exact H) | (have H2_ := (Option.bind_some _ _).symm.trans H; rw [hy653]; with_reducible exact H2_) | (have H2_ := (Option.bind_some _ _).symm.trans H; with_reducible exact H2_) | with_reducible exact H | (rw [hy653]; exact H) | exact H
              have Ny653 := Aside0.mk hy653
              clear hy653
              have H' := Aside0.mk H
              clear H
              have p645 : 0 ≤ (x8_1 : Int) := of_decide_eq_true (by first | (with_reducible assumption) | assumption)
              have q645 : x8_1 < (l0.length : Int) := of_decide_eq_true (by first | (with_reducible assumption) | assumption)
              obtain ⟨ad645, A645_0, c645_0, A645_1, c645_1, e645, hx645_0, hx645_1, hl645_0, hi645_0, hl645_1, hi645_1⟩ := at_T53 HR0.out x8_1 p645 q645
              cases e645
              replace hx645_0 := (HB.out.cell (World.block_lt_of_cell? w _ hx645_0)).trans hx645_0
              replace hx645_1 := (HB.out.cell (World.block_lt_of_cell? w _ hx645_1)).trans hx645_1
              have HR645_0 := Aside0.mk hi645_0
              have HC645_0 := Aside0.mk hl645_0
              clear hi645_0 hl645_0
              have HR645_1 := Aside0.mk hi645_1
              have HC645_1 := Aside0.mk hl645_1
              clear hi645_1 hl645_1
              replace p645 := eq_true p645
              replace q645 := eq_true q645
              try go_wp2_with (first | ((with_reducible refine gate_dst (N := 5) rfl ?_); refine box_event ?hg (N := 5) ?hd (cs := #[.slice none 0 0, .slice none 0 0]) (t := 53) ?hr ?_; (case hd => rfl); (case hg => rfl); (case hr => first | (go_simp; done) | (go_simp; rfl)); intro gb646 hg w8 hbox hb; have n0_ := Aside0.mk (Kd.S_below (Kd.S_elderB (by (with_reducible repeat (first | apply Kd.S_alloc | apply Kd.S_drewN | apply Kd.S_drew)); exact HO_3.out) gb646 (Nat.le_of_eq hg.symm)) hb); have n1_ := Aside0.mk (below_step (by repeat (first | (with_reducible first | exact HB.out | apply below_alloc | apply pw_below_drewN | apply below_drew1) | exact HB.out)) hb); have n2_ := Aside0.mk (hbox); have n3_ := Aside0.mk ((by rw [hg]; exact (below_size (by repeat (first | (with_reducible first | exact HB.out | apply below_alloc | apply pw_below_drewN | apply below_drew1) | exact HB.out))) : w.heap.size ≤ gb646)); have n4_ := Aside0.mk ((by rw [hg]; exact (below_size (by repeat (first | (with_reducible first | exact HB.out | apply below_alloc | apply pw_below_drewN | apply below_drew1) | exact HB.out))) : w.heap.size ≤ gb646)); clear HO_3; clear HB; have HO_3 := n0_; have HB := n1_; have BK646 := n2_; have GW646 := n3_; have GE646 := n4_; clear n0_ n1_ n2_ n3_ n4_; clear hb hbox hg; have hcz9_0 : w8.cell? ⟨gb646, 0, none⟩ = some (.slice none 0 0) := (blk_cell BK646.out 0).trans rfl; have hcz9_1 : w8.cell? ⟨gb646, 1, none⟩ = some (.slice none 0 0) := (blk_cell BK646.out 1).trans rfl; have hfz9_0 := blk_frozen BK646.out 0; have hfz9_1 := blk_frozen BK646.out 1))
              have n0_ : Aside0 (Kd.S k53 53 ((w8.setCell ⟨gb646, 0, none⟩ (.slice A645_0 ((rd_T53 l0 x8_1).f0).length c645_0)).setCell ⟨gb646, 1, none⟩ (.slice A645_1 ((rd_T53 l0 x8_1).f1).length c645_1)) w.heap.size (fun k_ => k_ ≠ gb646) u3 x3_1) := ⟨by (with_reducible repeat (first | apply Kd.S_alloc | apply Kd.S_drewN | apply Kd.S_drew)); exact Kd.S_mono (Kd.S_far (p := ⟨gb646, 1, none⟩) (Kd.S_far (p := ⟨gb646, 0, none⟩) (Kd.S_mono HO_3.out (fun k_ hk => (⟨hk, hk.2⟩ : _ ∧ k_ ≠ gb646))) (fun _ hk => hk.2) (.slice A645_0 ((rd_T53 l0 x8_1).f0).length c645_0)) (fun _ hk => hk.2) (.slice A645_1 ((rd_T53 l0 x8_1).f1).length c645_1)) (fun _ hk => hk.1.2)⟩
              have n1_ : Aside0 (((w8.setCell ⟨gb646, 0, none⟩ (.slice A645_0 ((rd_T53 l0 x8_1).f0).length c645_0)).setCell ⟨gb646, 1, none⟩ (.slice A645_1 ((rd_T53 l0 x8_1).f1).length c645_1)).heap[gb646]? = some (.cells #[.slice A645_0 ((rd_T53 l0 x8_1).f0).length c645_0, .slice A645_1 ((rd_T53 l0 x8_1).f1).length c645_1] 53 (0, 0))) := ⟨by (with_reducible repeat (first | refine blk_drewN ?_ _ | refine blk_drew ?_ | refine blk_alloc ?_ _)); refine blk_put (cs := #[.slice A645_0 ((rd_T53 l0 x8_1).f0).length c645_0, .slice none 0 0]) ?_ 1 _ rfl; (with_reducible repeat (first | refine blk_drewN ?_ _ | refine blk_drew ?_ | refine blk_alloc ?_ _)); refine blk_put (cs := #[.slice none 0 0, .slice none 0 0]) ?_ 0 _ rfl; (with_reducible repeat (first | refine blk_drewN ?_ _ | refine blk_drew ?_ | refine blk_alloc ?_ _)); exact BK646.out⟩
              have n2_ : Aside0 (Below w.heap.size w ((w8.setCell ⟨gb646, 0, none⟩ (.slice A645_0 ((rd_T53 l0 x8_1).f0).length c645_0)).setCell ⟨gb646, 1, none⟩ (.slice A645_1 ((rd_T53 l0 x8_1).f1).length c645_1))) := ⟨by repeat (first | (with_reducible first | exact HB.out | apply below_alloc | apply pw_below_drewN | apply below_drew1 | refine below_set ?_ GE646.out) | exact HB.out)⟩
              (try clear HO_3)
              (try clear BK646)
              (try clear HB)
              generalize ((w8.setCell ⟨gb646, 0, none⟩ (.slice A645_0 ((rd_T53 l0 x8_1).f0).length c645_0)).setCell ⟨gb646, 1, none⟩ (.slice A645_1 ((rd_T53 l0 x8_1).f1).length c645_1)) = w10 at n0_ n1_ n2_ ⊢
              have HO_3 := n0_
              have BK646 := n1_
              have HB := n2_
              clear n0_ n1_ n2_
              have n0_ := Aside0.mk (Kd.S_drew HO_3.out)
              have n1_ := Aside0.mk (blk_drew BK646.out)
              have n2_ := Aside0.mk (below_drew1 HB.out)
              clear HO_3
              clear BK646
              clear HB
              have HO_3 := n0_
              have BK646 := n1_
              have HB := n2_
              clear n0_ n1_ n2_
              refine start_ (n := 11) (S := fun w' => w'.cell? ⟨gb646, 0, none⟩ = some (.slice A645_0 ((rd_T53 l0 x8_1).f0).length c645_0) ∧ w'.cell? ⟨gb646, 1, none⟩ = some (.slice A645_1 ((rd_T53 l0 x8_1).f1).length c645_1)) (ds := []) #[false, false, false, false, false, false, false, false, false, false, false] (by kernel_rfl) rfl rfl ⟨(blk_cell BK646.out 0).trans rfl, (blk_cell BK646.out 1).trans rfl⟩ (fun hHeld => ?_); refine with_tabW weigh_copied.tab5 weigh_copied.bits5 (fun HT_ HW_ => ?_)
              generalize w10.drew = w11 at HO_3 BK646 HB hHeld ⊢
              refine pure_ (i := 0) (N := some 12) (v := ?_) (a' := ?_) #[true, false, false, false, false, false, false, false, false, false, false] rfl rfl (any_of HT_.out (by kernel_rfl)) (fun _ _ _ h => h) (Or.inl ⟨by rfl, ?_⟩) ?_ ?_
              rotate_left
              · intro w'
                go_simp
                with_reducible rfl
              rotate_left
              · simp only [Act.put, List.setIfInBounds_toArray, List.set_cons_zero, List.set_cons_succ, i64_w, i32_w]
                rfl
              refine pure_ (i := 1) (N := some 13) (v := ?_) (a' := ?_) #[true, true, false, false, false, false, false, false, false, false, false] rfl rfl (any_of HT_.out (by kernel_rfl)) (fun _ _ _ h => h) (Or.inl ⟨by rfl, ?_⟩) ?_ ?_
              rotate_left
              · intro w'
                go_simp
                with_reducible rfl
              rotate_left
              · simp only [Act.put, List.setIfInBounds_toArray, List.set_cons_zero, List.set_cons_succ, i64_w, i32_w]
                rfl
              refine pure_ (i := 4) (N := some 16) (v := ?_) (a' := ?_) #[true, true, false, false, true, false, false, false, false, false, false] rfl rfl (any_of HT_.out (by kernel_rfl)) (fun _ _ _ h => h) (Or.inl ⟨by rfl, ?_⟩) ?_ ?_
              rotate_left
              · intro w'
                go_simp
                with_reducible rfl
              rotate_left
              · simp only [Act.put, List.setIfInBounds_toArray, List.set_cons_zero, List.set_cons_succ, i64_w, i32_w]
                rfl
              refine take_ (i := 2) (N := some 14) (v := ?_) (a' := ?_) #[true, true, true, false, true, false, false, false, false, false, false] rfl rfl (take_ofW HT_.out HW_.out (by kernel_rfl)) (fun _ _ _ h => h) (Or.inl ⟨by rfl, ?_⟩) hHeld ?_ ?_
              rotate_left
              · rintro w' ⟨s0, s1⟩
                go_simp
                with_reducible rfl
              rotate_left
              · simp only [Act.put, List.setIfInBounds_toArray, List.set_cons_zero, List.set_cons_succ, i64_w, i32_w]
                rfl
              refine take_ (i := 5) (N := some 17) (v := ?_) (a' := ?_) #[true, true, true, false, true, true, false, false, false, false, false] rfl rfl (take_ofW HT_.out HW_.out (by kernel_rfl)) (fun _ _ _ h => h) (Or.inl ⟨by rfl, ?_⟩) hHeld ?_ ?_
              rotate_left
              · rintro w' ⟨s0, s1⟩
                go_simp
                with_reducible rfl
              rotate_left
              · simp only [Act.put, List.setIfInBounds_toArray, List.set_cons_zero, List.set_cons_succ, i64_w, i32_w]
                rfl
              refine one_ (i := 3) (N := some 15) #[true, true, true, true, true, true, false, false, false, false, false] rfl rfl (one_of HT_.out (by kernel_rfl)) (by decide) (fun K hK => ?_)
              refine goes_ Try.func91 (by kernel_rfl) rfl #[.slice A645_0 ((rd_T53 l0 x8_1).f0).length c645_0] (by rfl) rfl rfl (by (try simp only [List.map_toArray, List.map_cons, List.map_nil]); first | done | rfl | (simp only [List.length_drop, List.length_take]; rfl)) ?_
              with_reducible refine (slices_Clone_int_int.calls _ _ ((rd_T53 l0 x8_1).f0) t647 _ ?side1 ?side2 A5.out).mono ?_
              (case side1 => repeat (first | exact (Kd.C_below HR645_0.out HB.out) | (with_reducible refine Kd.C_alloc ?_ _) | (with_reducible refine Kd.C_drewN ?_ _) | (with_reducible refine Kd.C_drew ?_)))
              (case side2 => exact HC645_0.out)
              rintro e w12 ⟨v648, rfl, ho0, hb⟩
              refine ⟨_, rfl, ?_⟩
              have n0_ := Aside0.mk (Kd.S_elder' (by (with_reducible repeat (first | apply Kd.S_alloc | apply Kd.S_drewN | apply Kd.S_drew)); exact HO_3.out) (Kd.R_base ho0) hb)
              have n1_ := Aside0.mk (Kd.R_lower ho0 (below_size (by repeat (first | (with_reducible first | exact HB.out | apply below_alloc | apply pw_below_drewN | apply below_drew1 | refine below_set ?_ GE646.out) | exact HB.out))))
              have n2_ := Aside0.mk (blk_below (g := gb646) (o := .cells #[.slice A645_0 ((rd_T53 l0 x8_1).f0).length c645_0, .slice A645_1 ((rd_T53 l0 x8_1).f1).length c645_1] 53 (0, 0)) (by (with_reducible repeat (first | refine blk_drewN ?_ _ | refine blk_drew ?_ | refine blk_alloc ?_ _)); exact BK646.out) hb)
              have n3_ := Aside0.mk (below_step (by repeat (first | (with_reducible first | exact HB.out | apply below_alloc | apply pw_below_drewN | apply below_drew1 | refine below_set ?_ GE646.out) | exact HB.out)) hb)
              clear HO_3
              clear BK646
              clear HB
              have HO_3 := n0_
              have HO649 := n1_
              have BK646 := n2_
              have HB := n3_
              clear n0_ n1_ n2_ n3_
              (try clear hb)
              (try clear hb2)
              (try clear hk)
              (try clear hi)
              (try clear ho0)
              refine hK.out _ _ ⟨(blk_cell BK646.out 0).trans rfl, (blk_cell BK646.out 1).trans rfl⟩ (fun hHeld => ?_)
              clear hK K
              refine norm_ (a' := ?_) ?_ ?_
              rotate_left
              · show Act.put _ (some 15) _ = _
                simp only [Act.put, List.setIfInBounds_toArray, List.set_cons_zero, List.set_cons_succ, i64_w, i32_w]
                rfl
              refine one_ (i := 6) (N := some 18) #[true, true, true, true, true, true, true, false, false, false, false] rfl rfl (one_of HT_.out (by kernel_rfl)) (by decide) (fun K hK => ?_)
              refine goes_ Try.func91 (by kernel_rfl) rfl #[.slice A645_1 ((rd_T53 l0 x8_1).f1).length c645_1] (by rfl) rfl rfl (by (try simp only [List.map_toArray, List.map_cons, List.map_nil]); first | done | rfl | (simp only [List.length_drop, List.length_take]; rfl)) ?_
              with_reducible refine (slices_Clone_int_int.calls _ _ ((rd_T53 l0 x8_1).f1) t650 _ ?side1 ?side2 A6.out).mono ?_
              (case side1 => repeat (first | exact (Kd.C_below HR645_1.out HB.out) | (with_reducible refine Kd.C_alloc ?_ _) | (with_reducible refine Kd.C_drewN ?_ _) | (with_reducible refine Kd.C_drew ?_)))
              (case side2 => exact HC645_1.out)
              rintro e w13 ⟨v651, rfl, ho0, hb⟩
              refine ⟨_, rfl, ?_⟩
              have n0_ := Aside0.mk (Kd.S_elder' (by (with_reducible repeat (first | apply Kd.S_alloc | apply Kd.S_drewN | apply Kd.S_drew)); exact HO_3.out) (Kd.R_base ho0) hb)
              have n1_ := Aside0.mk (Kd.R_elder' (by (with_reducible repeat (first | apply Kd.R_alloc | apply Kd.R_drewN | apply Kd.R_drew)); exact HO649.out) (Kd.R_base ho0) hb)
              have n2_ := Aside0.mk (Kd.R_lower (Kd.R_new' ho0 (Kd.R_lt (by (with_reducible repeat (first | apply Kd.R_alloc | apply Kd.R_drewN | apply Kd.R_drew)); exact HO649.out))) (below_size (by repeat (first | (with_reducible first | exact HB.out | apply below_alloc | apply pw_below_drewN | apply below_drew1 | refine below_set ?_ GE646.out) | exact HB.out))))
              have n3_ := Aside0.mk (blk_below (g := gb646) (o := .cells #[.slice A645_0 ((rd_T53 l0 x8_1).f0).length c645_0, .slice A645_1 ((rd_T53 l0 x8_1).f1).length c645_1] 53 (0, 0)) (by (with_reducible repeat (first | refine blk_drewN ?_ _ | refine blk_drew ?_ | refine blk_alloc ?_ _)); exact BK646.out) hb)
              have n4_ := Aside0.mk (below_step (by repeat (first | (with_reducible first | exact HB.out | apply below_alloc | apply pw_below_drewN | apply below_drew1 | refine below_set ?_ GE646.out) | exact HB.out)) hb)
              clear HO_3
              clear HO649
              clear BK646
              clear HB
              have HO_3 := n0_
              have HO649 := n1_
              have HO652 := n2_
              have BK646 := n3_
              have HB := n4_
              clear n0_ n1_ n2_ n3_ n4_
              (try clear hb)
              (try clear hb2)
              (try clear hk)
              (try clear hi)
              (try clear ho0)
              obtain ⟨Ao14, co14, eo14⟩ := Kd.R_slice HO652.out
              (first | subst eo14 | (injection eo14 with f1_ f2_ f3_; have f4_ := f1_.symm; have f5_ := f3_.symm; clear f1_ f2_ f3_; subst f4_; subst f5_))
              obtain ⟨Ao15, co15, eo15⟩ := Kd.R_slice HO649.out
              (first | subst eo15 | (injection eo15 with f1_ f2_ f3_; have f4_ := f1_.symm; have f5_ := f3_.symm; clear f1_ f2_ f3_; subst f4_; subst f5_))
              refine hK.out _ _ ⟨(blk_cell BK646.out 0).trans rfl, (blk_cell BK646.out 1).trans rfl⟩ (fun hHeld => ?_)
              clear hK K
              refine norm_ (a' := ?_) ?_ ?_
              rotate_left
              · show Act.put _ (some 18) _ = _
                simp only [Act.put, List.setIfInBounds_toArray, List.set_cons_zero, List.set_cons_succ, i64_w, i32_w]
                rfl
              refine pure_ (i := 7) (N := some 19) (v := ?_) (a' := ?_) #[true, true, true, true, true, true, true, true, false, false, false] rfl rfl (any_of HT_.out (by kernel_rfl)) (fun _ _ _ h => h) (Or.inl ⟨by rfl, ?_⟩) ?_ ?_
              rotate_left
              · intro w'
                go_simp
                with_reducible rfl
              rotate_left
              · simp only [Act.put, List.setIfInBounds_toArray, List.set_cons_zero, List.set_cons_succ, i64_w, i32_w]
                rfl
              refine one_ (i := 8) (N := some 20) #[true, true, true, true, true, true, true, true, true, false, false] rfl rfl (one_of HT_.out (by kernel_rfl)) (by decide) (fun K hK => ?_)
              refine value_ (w1 := ?_) (v := ?_) (by rfl) rfl ?_ ?_
              rotate_left 2
              · go_simp
                constructor
                · rfl
                · rfl
              refine hK.out _ _ ⟨(blk_cell (blk_alloc BK646.out _) 0).trans rfl, (blk_cell (blk_alloc BK646.out _) 1).trans rfl⟩ (fun hHeld => ?_)
              clear hK K
              refine norm_ (a' := ?_) ?_ ?_
              rotate_left
              · show Act.put _ (some 20) _ = _
                simp only [Act.put, List.setIfInBounds_toArray, List.set_cons_zero, List.set_cons_succ, i64_w, i32_w]
                rfl
              refine one_ (i := 9) (N := some 21) #[true, true, true, true, true, true, true, true, true, true, false] rfl rfl (one_of HT_.out (by kernel_rfl)) (by decide) (fun K hK => ?_)
              refine Kd.S_append_step k53 (w0 := w) w.heap.size (by rfl) (.tmp 12) (.tmp 20) 22 53 (.agg #[(.slice none 0 0), (.slice none 0 0)]) 48 rfl Try.underlying22 info53 rfl (by decide) (by omega) u3 x3_1 (⟨t647, t650⟩ : S53) [.slice Ao15 t647.length co15, .slice Ao14 t650.length co14] (fun k_ => k_ ≠ gb646) (fun k_ => some k_ = (.slice Ao15 t647.length co15 : Value).ownBlock ∨ some k_ = (.slice Ao14 t650.length co14 : Value).ownBlock) rfl rfl ?aP (fun k_ hk_ => hk_.elim (fun h_ => ((Kd.R_mono (ok' := fun k_ => ((fun k_ => k_ ≠ gb646)) k_ ∧ some k_ ≠ (u3 : Value).ownBlock) (Kd.R_types (Kd.R_apart' (HO649.out) (Kd.S_typed HO_3.out) (by decide)) BK646.out (by decide)) (fun k_ hk => ⟨hk.2, hk.1.2⟩))).1 k_ h_.symm) (fun h_ => ((Kd.R_mono (ok' := fun k_ => ((fun k_ => k_ ≠ gb646)) k_ ∧ some k_ ≠ (u3 : Value).ownBlock) (Kd.R_types (Kd.R_apart' (HO652.out) (Kd.S_typed HO_3.out) (by decide)) BK646.out (by decide)) (fun k_ hk => ⟨hk.2, hk.1.2⟩))).1 k_ h_.symm)) ?aF ?aO ?aB ?aS ?aL ?_
              (case aP => exact k53_mkM _ _ _ (⟨t647, t650⟩ : S53) (Kd.R_mono (Kd.R_tight rfl (Kd.R_mono (ok' := fun k_ => ((fun k_ => k_ ≠ gb646)) k_ ∧ some k_ ≠ (u3 : Value).ownBlock) (Kd.R_types (Kd.R_apart' (HO649.out) (Kd.S_typed HO_3.out) (by decide)) BK646.out (by decide)) (fun k_ hk => ⟨hk.2, hk.1.2⟩))) (fun _ h_ => Or.inl h_)) (Kd.R_mono (Kd.R_tight rfl (Kd.R_mono (ok' := fun k_ => ((fun k_ => k_ ≠ gb646)) k_ ∧ some k_ ≠ (u3 : Value).ownBlock) (Kd.R_types (Kd.R_apart' (HO652.out) (Kd.S_typed HO_3.out) (by decide)) BK646.out (by decide)) (fun k_ hk => ⟨hk.2, hk.1.2⟩))) (fun _ h_ => Or.inr (h_))))
              (case aB => exact (by repeat (first | (with_reducible first | exact HB.out | apply below_alloc | apply pw_below_drewN | apply below_drew1 | refine below_set ?_ GE646.out) | exact HB.out)))
              (case aF => exact (fun k_ hk => Kd.freshB (g := gb646) (o := .cells #[.slice A645_0 ((rd_T53 l0 x8_1).f0).length c645_0, .slice A645_1 ((rd_T53 l0 x8_1).f1).length c645_1] 53 (0, 0)) (by (with_reducible repeat (first | refine blk_drewN ?_ _ | refine blk_drew ?_ | refine blk_alloc ?_ _)); exact BK646.out) k_ hk))
              (case aO => exact (by (with_reducible repeat (first | apply Kd.S_alloc | apply Kd.S_drewN | apply Kd.S_drew)); exact Kd.S_mono HO_3.out (fun k_ hk => ⟨hk.1.1, fun e_ => e_.elim (fun h_ => hk.1.2 h_) (fun h_ => hk.2 h_)⟩)))
              (case aS => exact (below_size (by repeat (first | (with_reducible first | exact HB.out | apply below_alloc | apply pw_below_drewN | apply below_drew1 | refine below_set ?_ GE646.out) | exact HB.out))))
              (case aL => have := LMc7.out; omega)
              intro v654 w16 ho hb hg hat
              rw [← Ny653.out] at ho
              have n0_ := Aside0.mk (blk_grown (g := gb646) (o := .cells #[.slice A645_0 ((rd_T53 l0 x8_1).f0).length c645_0, .slice A645_1 ((rd_T53 l0 x8_1).f1).length c645_1] 53 (0, 0)) (by (with_reducible repeat (first | refine blk_drewN ?_ _ | refine blk_drew ?_ | refine blk_alloc ?_ _)); exact BK646.out) hg (Kd.S_away HO_3.out (fun _ hk => hk.1.1)))
              have n1_ := Aside0.mk (hb)
              have n2_ := Aside0.mk (ho)
              clear BK646
              clear HB
              clear HO_3
              clear HO649
              clear HO652
              have BK646 := n0_
              have HB := n1_
              have HO655 := n2_
              clear n0_ n1_ n2_
              clear ho hb hg hat
              refine hK.out _ _ ⟨(blk_cell BK646.out 0).trans rfl, (blk_cell BK646.out 1).trans rfl⟩ (fun hHeld => ?_)
              clear hK K
              refine norm_ (a' := ?_) ?_ ?_
              rotate_left
              · show Act.put _ (some 21) _ = _
                simp only [Act.put, List.setIfInBounds_toArray, List.set_cons_zero, List.set_cons_succ, i64_w, i32_w]
                rfl
              refine pure_ (i := 10) (N := some 3) (v := ?_) (a' := ?_) #[true, true, true, true, true, true, true, true, true, true, true] rfl rfl (any_of HT_.out (by kernel_rfl)) (fun _ _ _ h => h) (Or.inl ⟨by rfl, ?_⟩) ?_ ?_
              rotate_left
              · intro w'
                go_simp
                with_reducible rfl
              rotate_left
              · simp only [Act.put, List.setIfInBounds_toArray, List.set_cons_zero, List.set_cons_succ, i64_w, i32_w]
                rfl
              refine done_ (done_of HT_.out (by kernel_rfl)) ?_
              try go_wp2
              go_roundg k1
              case measure => have := HK1.out; omega
              case rel => exact ⟨(y653), (wrap64 (x8_1 + 1)), (by first | rfl | (simp; done) | (simp [*]; done)), H', ⟨by have := HK1.out; omega⟩, ⟨by (with_reducible repeat (first | apply Kd.S_alloc | apply Kd.S_drewN | apply Kd.S_drew)); exact Kd.S_mono HO655.out (fun _ hk => trivial)⟩, ⟨by repeat (first | (with_reducible first | exact HB.out | apply below_alloc | apply pw_below_drewN | apply below_drew1 | refine below_set ?_ GE646.out) | exact HB.out)⟩⟩
            · rw [if_neg c7] at H
              exact absurd H (by simp)
          · rw [if_neg c4] at H
            exact absurd H (by simp)
        · rw [if_neg c3] at H
          exact absurd H (by simp)
      · rw [if_neg c2] at H
        have c2b0 : decide (x8_1 < (l0.length : Int)) = false := decide_eq_false c2
        clear c2
        obtain rfl := Option.some.inj H
        go_wp2
        go_ret
        exact ⟨_, by first | rfl | (simp [errW_none, errW_some] <;> rfl) | (simp [*, errW_none, errW_some] <;> rfl), by (with_reducible repeat (first | apply Kd.S_alloc | apply Kd.S_drewN | apply Kd.S_drew)); exact HO_3.out, by repeat (first | (with_reducible first | exact HB.out | apply below_alloc | apply pw_below_drewN | apply below_drew1) | exact HB.out)⟩

end Go.Proofs.Ytdbeochifofdoaa.X
end

section
/-! weigh.Mirror. -/
namespace Go.Proofs.Ytdbeochifofdoaa.X
open Go.RowKit Go.Proofs.YtdbeochifofdoaaW.PrintWords Go.Proofs.YtdbeochifofdoaaW.PrintLast Go.Proofs.YtdbeochifofdoaaW.PrintMore
set_option linter.unusedVariables false
set_option linter.unusedSimpArgs false

/-- The error of a plan and the number of a weighing. -/
def nErr (lots : Int) (l : List S53) (k : Int) : Int := if pErr lots l = 0 then (if 0 ≤ k ∧ k < (l.length : Int) then 0 else 4) else pErr lots l
def turnP (l : List S53) (k : Nat) : List S53 := l.set k ⟨(l.getD k z53).f1, (l.getD k z53).f0⟩
def weigh_Mirror.f (a0 : Int) (l1 : List S53) (k : Int) : Option (List S53 × Int) := some (if nErr a0 l1 k = 0 then (turnP l1 k.toNat, 0) else ([], nErr a0 l1 k))
theorem nErr_ok {lots : Int} {l : List S53} {k : Int} (h : nErr lots l k = 0) : pErr lots l = 0 ∧ 0 ≤ k ∧ k < (l.length : Int) := by
  unfold nErr at h
  by_cases hp : pErr lots l = 0
  · rw [if_pos hp] at h
    by_cases hk : 0 ≤ k ∧ k < (l.length : Int)
    · exact ⟨hp, hk⟩
    · rw [if_neg hk] at h; cases h
  · rw [if_neg hp] at h; exact absurd h hp
theorem numbered_f (lots : Int) (l : List S53) (k : Int) : weigh_numbered.f lots l k = some (nErr lots l k) := by
  unfold weigh_numbered.f nErr
  rw [show weigh_Validate.f lots l = some (pErr lots l) from rfl, Option.bind_some]
  by_cases hp : pErr lots l = 0
  · have few := (pErr_ok hp).few
    rw [if_pos hp, if_pos hp, within_f, Option.bind_some, show wrap64 ((l.length : Int) - 1) = (l.length : Int) - 1 from wr_of (by omega) (by omega)]
    by_cases hk : 0 ≤ k ∧ k < (l.length : Int)
    · rw [if_pos hk, if_pos (by simp; omega)]
    · rw [if_neg hk, if_neg (by simp; omega)]
  · rw [if_neg hp, if_neg hp]
theorem ok_short {lots : Int} {l : List S53} (hp : pErr lots l = 0) : ∀ y, y ∈ l → y.f0.length ≤ 13 ∧ y.f1.length ≤ 13 := by
  intro y hy
  have ok := pErr_ok hp
  have hw := ok.each y hy
  have hlo := ok.lo
  have hhi := ok.hi
  have l1 := congrArg List.length (side_left hw (by omega))
  have l2 := congrArg List.length (side_right hw (by omega))
  rw [List.length_map] at l1 l2
  have f1 := List.length_filter_le (fun (n : Nat) => markOf (n : Int) y == 1) (List.range' 0 lots.toNat)
  have f2 := List.length_filter_le (fun (n : Nat) => markOf (n : Int) y == -1) (List.range' 0 lots.toNat)
  rw [List.length_range'] at f1 f2
  omega
theorem copied_l0 (l : List S53) (hl : l.length ≤ 3) (hs : ∀ y, y ∈ l → y.f0.length ≤ 13 ∧ y.f1.length ≤ 13) : ∀ (d k i : Nat) (acc : List S53), i ≤ l.length → l.length - i = d → acc.length = i → d < k → weigh_copied.l0 k acc l (l.length : Int) i = some (acc ++ l.drop i)
  | 0, k + 1, i, acc, h1, h2, h3, h4 => by
    unfold weigh_copied.l0
    rw [if_neg (by omega), List.drop_eq_nil_of_le (by omega), List.append_nil]
  | d + 1, k + 1, i, acc, h1, h2, h3, h4 => by
    unfold weigh_copied.l0
    have hm := hs _ (mem_getD z53 l i (by omega))
    have ih := copied_l0 l hl hs d k (i + 1) (acc ++ [l.getD i z53]) (by omega) (by omega) (by simp [h3]) (by omega)
    rw [if_pos (by omega), if_pos (by omega), if_pos (by omega), show rd_T53 l (i : Int) = l.getD i z53 from rfl, show slices_Clone_int_int.f (l.getD i z53).f0 = some (l.getD i z53).f0 from by unfold slices_Clone_int_int.f; rw [if_pos (by omega)], Option.bind_some,
      show slices_Clone_int_int.f (l.getD i z53).f1 = some (l.getD i z53).f1 from by unfold slices_Clone_int_int.f; rw [if_pos (by omega)], Option.bind_some, if_pos (by omega), wrs i (by omega), show (⟨(l.getD i z53).f0, (l.getD i z53).f1⟩ : S53) = l.getD i z53 from rfl, ih, dropD z53 l i (by omega)]
    simp
theorem copied_f (l : List S53) (hl : l.length ≤ 3) (hs : ∀ y, y ∈ l → y.f0.length ≤ 13 ∧ y.f1.length ≤ 13) : weigh_copied.f 10 l = some l := by
  unfold weigh_copied.f
  have := copied_l0 l hl hs l.length 10 0 [] (by omega) (by omega) rfl (by omega)
  exact this
def weigh_Mirror.T : Bool × List (List Nat × List Nat) := (true, [([], []), ([], []), ([], []), ([], []), ([], []), ([], []), ([4, 5], [4, 5]), ([6], [6]), ([7], [7]), ([], []), ([], []), ([9, 10], [9, 10]), ([11], [11]), ([12], [12]), ([0, 1, 0, 1, 4, 5, 6, 7, 8, 13], [0, 1]), ([14, 0, 1, 4, 5, 6, 7, 8, 13], [14]), ([15, 8, 0, 1, 4, 5, 6, 7, 8, 13], [8, 15]), ([2, 3, 0, 1, 2, 3, 4, 5, 6, 7, 8, 9, 10, 11, 12, 13, 14, 15, 16], [2, 3]), ([17, 0, 1, 2, 3, 4, 5, 6, 7, 8, 9, 10, 11, 12, 13, 14, 15, 16], [17]), ([18, 13, 16, 0, 1, 2, 3, 4, 5, 6, 7, 8, 9, 10, 11, 12, 13, 14, 15, 16], [13, 18])])
def weigh_Mirror.B : List Nat := [0, 0, 0, 0, 0, 0, 48, 112, 240, 0, 0, 1536, 3584, 7680, 16371, 32755, 65523, 131071, 262143, 524287]
theorem weigh_Mirror.tab : rtab .any (opsOf Try.f73 5) = weigh_Mirror.T := by kernel_rfl
theorem weigh_Mirror.bits : waitsOk weigh_Mirror.T.2 weigh_Mirror.B = true := by kernel_rfl
set_option maxHeartbeats 4000000 in
set_option maxRecDepth 100000 in
theorem weigh_Mirror.calls (a0 : Int) (A1 : Option Addr) (c1 : Nat) (l1 : List S53) (a2 : Int) (r1 : List S53) (r2 : Int) (w : World) (hr1 : Kd.C k53 w A1 l1.length l1) (hc1 : l1.length ≤ c1) (h : weigh_Mirror.f a0 l1 a2 = some (r1, r2)) :
    Calls Try.prog 73 #[.int .i64 a0, .slice A1 l1.length c1, .int .i64 a2] w fun e w' => ∃ v0_ : Value, e = .returned (.tuple #[v0_, .int .i64 r2]) ∧ Kd.R k53 53 w' w.heap.size (fun _ => True) v0_ r1 ∧ Below w.heap.size w w' := by
  have HR := Aside0.mk hr1
  have HC := Aside0.mk hc1
  unfold weigh_Mirror.f at h
  obtain ⟨q, hq⟩ : ∃ q, q = nErr a0 l1 a2 := ⟨_, rfl⟩
  have HF := Aside0.mk (show weigh_numbered.f a0 l1 a2 = some q by rw [hq, numbered_f])
  have HQ := Aside0.mk hq
  rw [← hq] at h
  clear hq hr1 hc1
  go_enter Try.func73, Try.ntmps73
  go_wp2_with fail
  refine (weigh_numbered.calls a0 A1 c1 l1 a2 q _ HR.out HC.out HF.out).mono ?_
  rintro e w1 ⟨rfl, hb⟩
  have HB := Aside0.mk hb
  clear hb
  by_cases hz : q = 0
  rotate_left
  · rw [if_neg hz] at h
    simp only [Option.some.injEq, Prod.mk.injEq] at h
    obtain ⟨rfl, rfl⟩ := h
    have q1 : (q != 0) = true := by simpa using hz
    go_wp2
    go_ret2
    exact ⟨_, rfl, Kd.R_nil _ _ _ _ _, HB.out⟩
  subst hz
  rw [if_pos rfl] at h
  simp only [Option.some.injEq, Prod.mk.injEq] at h
  obtain ⟨h1, rfl⟩ := h
  obtain ⟨hp, hlo, hhi⟩ := nErr_ok HQ.out.symm
  have HCF := Aside0.mk (copied_f l1 (pErr_ok hp).few (ok_short hp))
  obtain ⟨n, rfl⟩ := Int.eq_ofNat_of_zero_le hlo
  rw [Int.toNat_natCast] at h1
  have H1 := Aside0.mk h1
  have hnl : n < l1.length := by omega
  clear h1 hp
  go_wp2_with fail
  refine (weigh_copied.calls 10 A1 c1 l1 l1 _ (Kd.C_below HR.out HB.out) HC.out HCF.out).mono ?_
  rintro e w2 ⟨v, rfl, hO, hb⟩
  have hR := Kd.S_R hO
  obtain ⟨g, cap, rfl, hge, _, _⟩ := Kd.R_form hR (by omega)
  obtain ⟨v0, v1, cells, hcells, hv0, hv1, _, hcap, ⟨Aa, ca, rfl⟩, ⟨Ab, cb, rfl⟩, hR2⟩ := R_swap hR n hnl
  generalize hla : (l1.getD n z53).f0.length = na at *
  generalize hlb : (l1.getD n z53).f1.length = nb at *
  clear hla hlb
  have HB2 := Aside0.mk (HB.out.trans (hb.mono HB.out.size))
  have HX := Aside0.mk hR
  have BK := Aside0.mk hcells
  have C0 := Aside0.mk hv0
  have C1 := Aside0.mk hv1
  have hge2 := Nat.le_trans HB.out.size hge
  have hcap2 : (n : Int) ≤ (cap : Int) := by omega
  clear hO hb hR hR2 hcells hv0 hv1
  go_wp2
  have HBd := Aside0.mk (below_drew1 HB2.out)
  have BKd := Aside0.mk (blk_drew BK.out)
  have HXd := Aside0.mk (Kd.R_drew HX.out)
  have k0 : w2.drew.cell? ⟨g, n * 2, none⟩ = some (.slice Aa na ca) := (blk_cell BKd.out _).trans C0.out
  have k1 : w2.drew.cell? ⟨g, n * 2 + 1, none⟩ = some (.slice Ab nb cb) := (blk_cell BKd.out _).trans C1.out
  have kf0 : w2.drew.frozen? ⟨g, n * 2, none⟩ = false := blk_frozen BKd.out _
  have kf1 : w2.drew.frozen? ⟨g, n * 2 + 1, none⟩ = false := blk_frozen BKd.out _
  refine start_ (n := 20) (S := fun W => W.cell? ⟨g, n * 2, none⟩ = some (.slice Aa na ca) ∧ W.cell? ⟨g, n * 2 + 1, none⟩ = some (.slice Ab nb cb)) (ds := [16, 19]) #[false, false, false, false, false, false, false, false, false, false, false, false, false, false, false, false, false, false, false, false] (by kernel_rfl) rfl rfl ⟨k0, k1⟩ (fun hHeld => ?_)
  refine with_tabW weigh_Mirror.tab weigh_Mirror.bits (fun HT_ HW_ => ?_)
  clear HB2 BK HX
  generalize w2.drew = W at HBd BKd HXd k0 k1 kf0 kf1 hHeld ⊢
  refine pure_ (i := 0) (N := some 19) (v := ?_) (a' := ?_) #[true, false, false, false, false, false, false, false, false, false, false, false, false, false, false, false, false, false, false, false] rfl rfl (any_of HT_.out (by kernel_rfl)) (fun _ _ _ h => h) (Or.inl ⟨by rfl, ?_⟩) ?_ ?_
  rotate_left
  · intro w'
    go_simp
    with_reducible rfl
  rotate_left
  · simp only [Act.put, List.setIfInBounds_toArray, List.set_cons_zero, List.set_cons_succ, i64_w, i32_w]
    rfl
  refine pure_ (i := 1) (N := some 20) (v := ?_) (a' := ?_) #[true, true, false, false, false, false, false, false, false, false, false, false, false, false, false, false, false, false, false, false] rfl rfl (any_of HT_.out (by kernel_rfl)) (fun _ _ _ h => h) (Or.inl ⟨by rfl, ?_⟩) ?_ ?_
  rotate_left
  · intro w'
    go_simp
    with_reducible rfl
  rotate_left
  · simp only [Act.put, List.setIfInBounds_toArray, List.set_cons_zero, List.set_cons_succ, i64_w, i32_w]
    rfl
  refine pure_ (i := 2) (N := some 21) (v := ?_) (a' := ?_) #[true, true, true, false, false, false, false, false, false, false, false, false, false, false, false, false, false, false, false, false] rfl rfl (any_of HT_.out (by kernel_rfl)) (fun _ _ _ h => h) (Or.inl ⟨by rfl, ?_⟩) ?_ ?_
  rotate_left
  · intro w'
    go_simp
    with_reducible rfl
  rotate_left
  · simp only [Act.put, List.setIfInBounds_toArray, List.set_cons_zero, List.set_cons_succ, i64_w, i32_w]
    rfl
  refine pure_ (i := 3) (N := some 22) (v := ?_) (a' := ?_) #[true, true, true, true, false, false, false, false, false, false, false, false, false, false, false, false, false, false, false, false] rfl rfl (any_of HT_.out (by kernel_rfl)) (fun _ _ _ h => h) (Or.inl ⟨by rfl, ?_⟩) ?_ ?_
  rotate_left
  · intro w'
    go_simp
    with_reducible rfl
  rotate_left
  · simp only [Act.put, List.setIfInBounds_toArray, List.set_cons_zero, List.set_cons_succ, i64_w, i32_w]
    rfl
  refine pure_ (i := 4) (N := some 23) (v := ?_) (a' := ?_) #[true, true, true, true, true, false, false, false, false, false, false, false, false, false, false, false, false, false, false, false] rfl rfl (any_of HT_.out (by kernel_rfl)) (fun _ _ _ h => h) (Or.inl ⟨by rfl, ?_⟩) ?_ ?_
  rotate_left
  · intro w'
    go_simp
    with_reducible rfl
  rotate_left
  · simp only [Act.put, List.setIfInBounds_toArray, List.set_cons_zero, List.set_cons_succ, i64_w, i32_w]
    rfl
  refine pure_ (i := 5) (N := some 24) (v := ?_) (a' := ?_) #[true, true, true, true, true, true, false, false, false, false, false, false, false, false, false, false, false, false, false, false] rfl rfl (any_of HT_.out (by kernel_rfl)) (fun _ _ _ h => h) (Or.inl ⟨by rfl, ?_⟩) ?_ ?_
  rotate_left
  · intro w'
    go_simp
    with_reducible rfl
  rotate_left
  · simp only [Act.put, List.setIfInBounds_toArray, List.set_cons_zero, List.set_cons_succ, i64_w, i32_w]
    rfl
  refine pure_ (i := 6) (N := some 25) (v := ?_) (a' := ?_) #[true, true, true, true, true, true, true, false, false, false, false, false, false, false, false, false, false, false, false, false] rfl rfl (any_of HT_.out (by kernel_rfl)) (fun _ _ _ h => h) (Or.inl ⟨by rfl, ?_⟩) ?_ ?_
  rotate_left
  · intro w'
    go_simp
    with_reducible rfl
  rotate_left
  · simp only [Act.put, List.setIfInBounds_toArray, List.set_cons_zero, List.set_cons_succ, i64_w, i32_w]
    rfl
  refine pure_ (i := 7) (N := some 26) (v := ?_) (a' := ?_) #[true, true, true, true, true, true, true, true, false, false, false, false, false, false, false, false, false, false, false, false] rfl rfl (any_of HT_.out (by kernel_rfl)) (fun _ _ _ h => h) (Or.inl ⟨by rfl, ?_⟩) ?_ ?_
  rotate_left
  · intro w'
    go_simp
    with_reducible rfl
  rotate_left
  · simp only [Act.put, List.setIfInBounds_toArray, List.set_cons_zero, List.set_cons_succ, i64_w, i32_w]
    rfl
  refine take_ (i := 8) (N := some 27) (v := ?_) (a' := ?_) #[true, true, true, true, true, true, true, true, true, false, false, false, false, false, false, false, false, false, false, false] rfl rfl (take_ofW HT_.out HW_.out (by kernel_rfl)) (fun _ _ _ h => h) (Or.inl ⟨by rfl, ?_⟩) hHeld ?_ ?_
  rotate_left
  · rintro w' ⟨s0, s1⟩
    go_simp
    with_reducible rfl
  rotate_left
  · simp only [Act.put, List.setIfInBounds_toArray, List.set_cons_zero, List.set_cons_succ, i64_w, i32_w]
    rfl
  refine pure_ (i := 9) (N := some 28) (v := ?_) (a' := ?_) #[true, true, true, true, true, true, true, true, true, true, false, false, false, false, false, false, false, false, false, false] rfl rfl (any_of HT_.out (by kernel_rfl)) (fun _ _ _ h => h) (Or.inl ⟨by rfl, ?_⟩) ?_ ?_
  rotate_left
  · intro w'
    go_simp
    with_reducible rfl
  rotate_left
  · simp only [Act.put, List.setIfInBounds_toArray, List.set_cons_zero, List.set_cons_succ, i64_w, i32_w]
    rfl
  refine pure_ (i := 10) (N := some 29) (v := ?_) (a' := ?_) #[true, true, true, true, true, true, true, true, true, true, true, false, false, false, false, false, false, false, false, false] rfl rfl (any_of HT_.out (by kernel_rfl)) (fun _ _ _ h => h) (Or.inl ⟨by rfl, ?_⟩) ?_ ?_
  rotate_left
  · intro w'
    go_simp
    with_reducible rfl
  rotate_left
  · simp only [Act.put, List.setIfInBounds_toArray, List.set_cons_zero, List.set_cons_succ, i64_w, i32_w]
    rfl
  refine pure_ (i := 11) (N := some 30) (v := ?_) (a' := ?_) #[true, true, true, true, true, true, true, true, true, true, true, true, false, false, false, false, false, false, false, false] rfl rfl (any_of HT_.out (by kernel_rfl)) (fun _ _ _ h => h) (Or.inl ⟨by rfl, ?_⟩) ?_ ?_
  rotate_left
  · intro w'
    go_simp
    with_reducible rfl
  rotate_left
  · simp only [Act.put, List.setIfInBounds_toArray, List.set_cons_zero, List.set_cons_succ, i64_w, i32_w]
    rfl
  refine pure_ (i := 12) (N := some 31) (v := ?_) (a' := ?_) #[true, true, true, true, true, true, true, true, true, true, true, true, true, false, false, false, false, false, false, false] rfl rfl (any_of HT_.out (by kernel_rfl)) (fun _ _ _ h => h) (Or.inl ⟨by rfl, ?_⟩) ?_ ?_
  rotate_left
  · intro w'
    go_simp
    with_reducible rfl
  rotate_left
  · simp only [Act.put, List.setIfInBounds_toArray, List.set_cons_zero, List.set_cons_succ, i64_w, i32_w]
    rfl
  refine take_ (i := 13) (N := some 32) (v := ?_) (a' := ?_) #[true, true, true, true, true, true, true, true, true, true, true, true, true, true, false, false, false, false, false, false] rfl rfl (take_ofW HT_.out HW_.out (by kernel_rfl)) (fun _ _ _ h => h) (Or.inl ⟨by rfl, ?_⟩) hHeld ?_ ?_
  rotate_left
  · rintro w' ⟨s0, s1⟩
    go_simp
    with_reducible rfl
  rotate_left
  · simp only [Act.put, List.setIfInBounds_toArray, List.set_cons_zero, List.set_cons_succ, i64_w, i32_w]
    rfl
  refine pure_ (i := 14) (N := some 33) (v := ?_) (a' := ?_) #[true, true, true, true, true, true, true, true, true, true, true, true, true, true, true, false, false, false, false, false] rfl rfl (any_of HT_.out (by kernel_rfl)) (fun _ _ _ h => h) (Or.inl ⟨by rfl, ?_⟩) ?_ ?_
  rotate_left
  · intro w'
    go_simp
    with_reducible rfl
  rotate_left
  · simp only [Act.put, List.setIfInBounds_toArray, List.set_cons_zero, List.set_cons_succ, i64_w, i32_w]
    rfl
  refine pure_ (i := 15) (N := some 34) (v := ?_) (a' := ?_) #[true, true, true, true, true, true, true, true, true, true, true, true, true, true, true, true, false, false, false, false] rfl rfl (any_of HT_.out (by kernel_rfl)) (fun _ _ _ h => h) (Or.inl ⟨by rfl, ?_⟩) ?_ ?_
  rotate_left
  · intro w'
    go_simp
    with_reducible rfl
  rotate_left
  · simp only [Act.put, List.setIfInBounds_toArray, List.set_cons_zero, List.set_cons_succ, i64_w, i32_w]
    rfl
  refine last_ (i := 16) (N := none) #[true, true, true, true, true, true, true, true, true, true, true, true, true, true, true, true, true, false, false, false] rfl rfl (one_of HT_.out (by kernel_rfl)) (by decide) (fun K hK => ?_)
  refine skip_ (w1 := W.setCell ⟨g, n * 2, none⟩ (.slice Ab nb cb)) (by rfl) rfl ?_ ?_
  · first | (go_simp; done) | (go_simp; rfl)
  refine hK.out _ _ ?_
  clear hK K
  refine pure_ (i := 17) (N := some 35) (v := ?_) (a' := ?_) #[true, true, true, true, true, true, true, true, true, true, true, true, true, true, true, true, true, true, false, false] rfl rfl (any_of HT_.out (by kernel_rfl)) (fun _ _ _ h => h) (Or.inl ⟨by rfl, ?_⟩) ?_ ?_
  rotate_left
  · intro w'
    go_simp
    with_reducible rfl
  rotate_left
  · simp only [Act.put, List.setIfInBounds_toArray, List.set_cons_zero, List.set_cons_succ, i64_w, i32_w]
    rfl
  refine pure_ (i := 18) (N := some 36) (v := ?_) (a' := ?_) #[true, true, true, true, true, true, true, true, true, true, true, true, true, true, true, true, true, true, true, false] rfl rfl (any_of HT_.out (by kernel_rfl)) (fun _ _ _ h => h) (Or.inl ⟨by rfl, ?_⟩) ?_ ?_
  rotate_left
  · intro w'
    go_simp
    with_reducible rfl
  rotate_left
  · simp only [Act.put, List.setIfInBounds_toArray, List.set_cons_zero, List.set_cons_succ, i64_w, i32_w]
    rfl
  have k2 : (W.setCell ⟨g, n * 2, none⟩ (.slice Ab nb cb)).cell? ⟨g, n * 2 + 1, none⟩ = some (.slice Ab nb cb) := (blk_cell (blk_set BKd.out (n * 2) (.slice Ab nb cb)) _).trans (by rw [Array.getElem?_setIfInBounds_ne (by omega)]; exact C1.out)
  have kf2 : (W.setCell ⟨g, n * 2, none⟩ (.slice Ab nb cb)).frozen? ⟨g, n * 2 + 1, none⟩ = false := blk_frozen (blk_set BKd.out (n * 2) (.slice Ab nb cb)) _
  refine last_ (i := 19) (N := none) #[true, true, true, true, true, true, true, true, true, true, true, true, true, true, true, true, true, true, true, true] rfl rfl (one_of HT_.out (by kernel_rfl)) (by decide) (fun K hK => ?_)
  refine skip_ (w1 := (W.setCell ⟨g, n * 2, none⟩ (.slice Ab nb cb)).setCell ⟨g, n * 2 + 1, none⟩ (.slice Aa na ca)) (by rfl) rfl ?_ ?_
  · first | (go_simp; done) | (go_simp; rfl)
  refine hK.out _ _ ?_
  clear hK K
  refine done_ (done_of HT_.out (by kernel_rfl)) ?_
  obtain ⟨u0, u1, cells', hb', e0, e1, _, _, _, _, hR2⟩ := R_swap HXd.out n hnl
  have hcc : cells' = cells := by
    have := BKd.out
    rw [hb'] at this
    injection this with this
    injection this with this
  subst hcc
  rw [C0.out] at e0
  rw [C1.out] at e1
  obtain rfl := Option.some.inj e0
  obtain rfl := Option.some.inj e1
  have HR2 := Aside0.mk hR2
  have HB3 : Aside0 (Below w.heap.size w ((W.setCell ⟨g, n * 2, none⟩ (.slice Ab nb cb)).setCell ⟨g, n * 2 + 1, none⟩ (.slice Aa na ca))) := ⟨below_set (below_set HBd.out hge2) hge2⟩
  clear hR2
  go_wp2
  go_ret2
  refine ⟨_, rfl, ?_, HB3.out⟩
  have h := Kd.R_lower HR2.out HB.out.size
  rw [← H1.out]
  exact h
end Go.Proofs.Ytdbeochifofdoaa.X
end

section
/-! slices.Delete of one weighing; weigh.Without. -/
namespace Go.Proofs.Ytdbeochifofdoaa.X
open Go.RowKit Go.Proofs.YtdbeochifofdoaaW.PrintWords Go.Proofs.YtdbeochifofdoaaW.PrintLast Go.Proofs.YtdbeochifofdoaaW.PrintMore
set_option linter.unusedVariables false
set_option linter.unusedSimpArgs false

/-- Cells behind a row's end are written: the row stays. -/
theorem R_tail {W : World} {base g c n : Nat} {ok : Nat → Prop} {xs : List S53} (h : Kd.R k53 53 W base ok (.slice (some ⟨g, 0, none⟩) n c) xs) (o : Nat) (vs : List Value) (ho : xs.length * 2 ≤ o) (hf : o + vs.length ≤ c * 2) :
    Kd.R k53 53 (W.setCells g o vs) base ok (.slice (some ⟨g, 0, none⟩) n c) xs ∧ W.grownBy (W.setCells g o vs) (some g) := by
  obtain ⟨h0, inner, ho2, hr⟩ := h
  obtain ⟨hl, ho2⟩ := ho2
  rcases ho2 with ⟨hv, _⟩ | ⟨g', cap', cur, hv, hg, hb, hn, hm, hc, ht⟩
  · cases hv
  injection hv with hv1 hv2 hv3
  injection hv1 with hv1
  injection hv1 with hv1 _ _
  subst hv1 hv3
  have hsz : k53.sz = 2 := rfl
  rw [hsz] at hl hc ht hr
  have hl1 : n = xs.length := by simpa using hv2
  have hl2 : (Array.mk xs).size = xs.length := by simp
  obtain ⟨cur', b1, b2, b3⟩ := setCells_row vs o W cur hb (by omega)
  obtain ⟨s1, s2, s3, s4⟩ := setCells_same g vs o W
  refine ⟨⟨h0, inner, ⟨by rw [hsz]; exact hl, .inr ⟨g, c, cur', hv2 ▸ rfl, hg, b1, hn, hm, by rw [hsz, b2]; exact hc, ?_⟩⟩, by rw [hsz]; exact hr.1, fun j p hj => ?_⟩, ⟨s1, s2, s3, by rw [s4]; exact Nat.le_refl _, fun k _ hk => setCells_far vs o k (fun he => hk (by rw [he]))⟩⟩
  · rw [hsz, b3, List.append_assoc, List.take_append_of_le_length (by simp only [List.length_take, Array.length_toList]; omega), List.take_take, Nat.min_eq_left (by omega), ht]
  · rw [hsz]
    exact Kd.M_step (hr.2 j p hj) (fun q hq _ => setCells_far vs o q (fun he => hq.2 (by rw [he]; rfl)))
theorem zero53 (w : World) : (zeroValue 53).run Try.prog w = .ok (.agg #[.slice none 0 0, .slice none 0 0]) w := by kernel_rfl
/-- The cell behind a row is cleared. -/
theorem clear_one {W : World} {base g c n m : Nat} {ok : Nat → Prop} {xs : List S53} (h : Kd.R k53 53 W base ok (.slice (some ⟨g, 0, none⟩) n c) xs) (hn : n < c) : ∃ W', (Builtin.clear_ #[22] 0 #[.slice (some ⟨g, n * 2, none⟩) 1 m]).run Try.prog W = .ok (.tuple #[]) W' ∧
    Kd.R k53 53 W' base ok (.slice (some ⟨g, 0, none⟩) n c) xs ∧ W.grownBy W' (some g) := by
  obtain ⟨hl, _⟩ := Kd.R_reads' h
  have h' := h
  obtain ⟨h0, inner, ⟨_, ho2⟩, _⟩ := h'
  rcases ho2 with ⟨hv, _⟩ | ⟨g', cap', cur, hv, hg, hb, hn', hm, hc, ht⟩
  · cases hv
  injection hv with hv1 hv2 hv3
  injection hv1 with hv1
  injection hv1 with hv1 _ _
  subst hv1 hv3
  have hnx : n = xs.length := by simpa using hv2
  rw [show k53.sz = 2 from rfl] at hc
  obtain ⟨r1, r2⟩ := R_tail h (n * 2) [.slice none 0 0, .slice none 0 0] (by omega) (by simp; omega)
  refine ⟨_, ?_, r1, r2⟩
  have hrun := run_storeCells_cells (P := Try.prog) g (n * 2) [.slice none 0 0, .slice none 0 0] 0 W
    (fun j hj => by rw [blk_cell hb, Array.getElem?_eq_getElem (by simp at hj; omega)]; rfl) (fun j hj => blk_frozen hb _) (by simp [Value.oneCell'])
  have hu : (underlying 22).run Try.prog W = .ok (.slice 53) W := by kernel_rfl
  have hz := zero53 W
  rw [Nat.add_zero] at hrun
  unfold Builtin.clear_
  simp only [List.getElem?_toArray, List.getElem?_cons_zero, Sem.run_bind, Sem.run_pure, Result.andThen_ok, hu, hz, show (Builtin.zeroCells (Value.agg #[.slice none 0 0, .slice none 0 0]).cells 1).toList = [.slice none 0 0, .slice none 0 0] from by kernel_rfl, hrun]
def slices_Delete.T : Bool × List (List Nat × List Nat) := (true, [([], []), ([], []), ([0, 1], [0, 1]), ([], []), ([], []), ([3, 4], [3, 4]), ([2, 5], [2, 5]), ([6, 6, 0, 1, 2, 3, 4, 5, 6], [0, 3, 6])])
def slices_Delete.B : List Nat := [0, 0, 3, 0, 0, 24, 63, 127]
theorem slices_Delete.tab : rtab .any (opsOf Try.f109 5) = slices_Delete.T := by kernel_rfl
theorem slices_Delete.bits : waitsOk slices_Delete.T.2 slices_Delete.B = true := by kernel_rfl
set_option maxHeartbeats 4000000 in
set_option maxRecDepth 100000 in
theorem del_calls {base g c k : Nat} {xs : List S53} (w : World) (hO : Kd.R k53 53 w base (fun _ => True) (.slice (some ⟨g, 0, none⟩) xs.length c) xs) (hk : k < xs.length) (hx : xs.length ≤ 3) (hbase : base ≤ w.heap.size) :
    Calls Try.prog 109 #[.slice (some ⟨g, 0, none⟩) xs.length c, .int .i64 (k : Int), .int .i64 ((k + 1 : Nat) : Int)] w fun e w' => e = .returned (.slice (some ⟨g, 0, none⟩) (xs.length - 1) c) ∧ Kd.R k53 53 w' base (fun _ => True) (.slice (some ⟨g, 0, none⟩) (xs.length - 1) c) (xs.eraseIdx k) ∧ Below base w w' := by
  have HO := Aside0.mk hO
  have hnc := (Kd.R_reads' hO).2.1
  clear hO
  generalize hn : xs.length = n at *
  have HN := Aside0.mk hn
  clear hn
  have q0 : ((k : Int) == ((k + 1 : Nat) : Int)) = false := by rw [beq_eq_false_iff_ne]; omega
  have b0 : (0 : Int) ≤ (k : Int) := by omega
  have b1 : (k : Int) ≤ ((k + 1 : Nat) : Int) := by omega
  have b2 : ((k + 1 : Nat) : Int) ≤ (n : Int) := by omega
  have b3 : (n : Int) ≤ (c : Int) := by omega
  have b7 : (k : Int) + 1 ≤ (n : Int) := by omega
  have b8 : (0 : Int) ≤ (k : Int) + 1 := by omega
  have b4 : (0 : Int) ≤ ((k + 1 : Nat) : Int) := by omega
  have b5 : (k : Int) ≤ (c : Int) := by omega
  have b6 : (0 : Int) ≤ (n : Int) := by omega
  go_enter Try.func109, Try.ntmps109
  go_wp2
  refine start_ (n := 8) (S := fun W => True) (ds := []) #[false, false, false, false, false, false, false, false] (by kernel_rfl) rfl rfl trivial (fun hHeld => ?_)
  refine with_tabW slices_Delete.tab slices_Delete.bits (fun HT_ HW_ => ?_)
  have HOd := Aside0.mk (Kd.R_drew HO.out)
  have HBd := Aside0.mk (below_drew1 (Below.refl base w))
  have hbd : base ≤ w.drew.heap.size := hbase
  generalize w.drew = W at HOd HBd hbd hHeld ⊢
  refine pure_ (i := 0) (N := some 20) (v := ?_) (a' := ?_) #[true, false, false, false, false, false, false, false] rfl rfl (any_of HT_.out (by kernel_rfl)) (fun _ _ _ h => h) (Or.inl ⟨by rfl, ?_⟩) ?_ ?_
  rotate_left
  · intro w'
    go_simp
    with_reducible rfl
  rotate_left
  · simp only [Act.put, List.setIfInBounds_toArray, List.set_cons_zero, List.set_cons_succ, i64_w, i32_w]
    rfl
  refine pure_ (i := 1) (N := some 21) (v := ?_) (a' := ?_) #[true, true, false, false, false, false, false, false] rfl rfl (any_of HT_.out (by kernel_rfl)) (fun _ _ _ h => h) (Or.inl ⟨by rfl, ?_⟩) ?_ ?_
  rotate_left
  · intro w'
    go_simp
    with_reducible rfl
  rotate_left
  · simp only [Act.put, List.setIfInBounds_toArray, List.set_cons_zero, List.set_cons_succ, i64_w, i32_w]
    rfl
  refine pure_ (i := 2) (N := some 22) (v := ?_) (a' := ?_) #[true, true, true, false, false, false, false, false] rfl rfl (any_of HT_.out (by kernel_rfl)) (fun _ _ _ h => h) (Or.inl ⟨by rfl, ?_⟩) ?_ ?_
  rotate_left
  · intro w'
    go_simp
    with_reducible rfl
  rotate_left
  · simp only [Act.put, List.setIfInBounds_toArray, List.set_cons_zero, List.set_cons_succ, i64_w, i32_w]
    rfl
  refine pure_ (i := 3) (N := some 23) (v := ?_) (a' := ?_) #[true, true, true, true, false, false, false, false] rfl rfl (any_of HT_.out (by kernel_rfl)) (fun _ _ _ h => h) (Or.inl ⟨by rfl, ?_⟩) ?_ ?_
  rotate_left
  · intro w'
    go_simp
    with_reducible rfl
  rotate_left
  · simp only [Act.put, List.setIfInBounds_toArray, List.set_cons_zero, List.set_cons_succ, i64_w, i32_w]
    rfl
  refine pure_ (i := 4) (N := some 24) (v := ?_) (a' := ?_) #[true, true, true, true, true, false, false, false] rfl rfl (any_of HT_.out (by kernel_rfl)) (fun _ _ _ h => h) (Or.inl ⟨by rfl, ?_⟩) ?_ ?_
  rotate_left
  · intro w'
    go_simp
    with_reducible rfl
  rotate_left
  · simp only [Act.put, List.setIfInBounds_toArray, List.set_cons_zero, List.set_cons_succ, i64_w, i32_w]
    rfl
  refine pure_ (i := 5) (N := some 25) (v := ?_) (a' := ?_) #[true, true, true, true, true, true, false, false] rfl rfl (any_of HT_.out (by kernel_rfl)) (fun _ _ _ h => h) (Or.inl ⟨by rfl, ?_⟩) ?_ ?_
  rotate_left
  · intro w'
    go_simp
    with_reducible rfl
  rotate_left
  · simp only [Act.put, List.setIfInBounds_toArray, List.set_cons_zero, List.set_cons_succ, i64_w, i32_w]
    rfl
  refine one_ (i := 6) (N := some 26) #[true, true, true, true, true, true, true, false] rfl rfl (one_of HT_.out (by kernel_rfl)) (by decide) (fun K hK => ?_)
  refine Kd.R_delete_step k53 (n := n) (k := k) (c := c) (xs := xs) (ok := fun _ => True) (w0 := w) base (by rfl) _ _ 22 53 rfl (by kernel_rfl) (by kernel_rfl) (by rfl) (by rfl) (by simp [Addr.add, show k53.sz = 2 from rfl]) rfl HOd.out hk HBd.out hbd (fun w1 hr hb hg => ?_)
  refine hK.out _ _ trivial (fun _ => ?_)
  clear hK K
  have HR1 := Aside0.mk hr
  have HB1 := Aside0.mk hb
  clear hr hb hg HOd HBd hHeld hbd
  refine norm_ (a' := ?_) ?_ ?_
  rotate_left
  · show Act.put _ (some 26) _ = _
    simp only [Act.put, List.setIfInBounds_toArray, List.set_cons_zero, List.set_cons_succ, i64_w, i32_w]
    rfl
  refine pure_ (i := 7) (N := some 0) (v := ?_) (a' := ?_) #[true, true, true, true, true, true, true, true] rfl rfl (any_of HT_.out (by kernel_rfl)) (fun _ _ _ h => h) (Or.inl ⟨by rfl, ?_⟩) ?_ ?_
  rotate_left
  · intro w'
    go_simp
    with_reducible rfl
  rotate_left
  · simp only [Act.put, List.setIfInBounds_toArray, List.set_cons_zero, List.set_cons_succ, i64_w, i32_w]
    rfl
  refine done_ (done_of HT_.out (by kernel_rfl)) ?_
  have e1 : n - (n - 1) = 1 := by omega
  go_wp2
  all_goals
    obtain ⟨W2, hrun, hR2, hG2⟩ := clear_one (m := _) HR1.out (by omega)
    rw [hrun]
    have HR2 := Aside0.mk hR2
    have HB2 := Aside0.mk (HB1.out.grown hG2 (Nat.le_trans hbase HB1.out.size) (fun k hk => by injection hk with hk; subst hk; exact Kd.R_base HR1.out _ (by simp [Value.ownBlock])))
    clear hrun hR2 hG2
    go_simp
    go_wp2
    go_ret
    exact ⟨by first | rfl | (have he : c = k + 1 := by assumption
                             subst he
                             rfl), HR2.out, HB2.out⟩

def weigh_Without.f (a0 : Int) (l1 : List S53) (k : Int) : Option (List S53 × Int) := some (if nErr a0 l1 k = 0 then (l1.eraseIdx k.toNat, 0) else ([], nErr a0 l1 k))
set_option maxHeartbeats 4000000 in
set_option maxRecDepth 100000 in
theorem weigh_Without.calls (a0 : Int) (A1 : Option Addr) (c1 : Nat) (l1 : List S53) (a2 : Int) (r1 : List S53) (r2 : Int) (w : World) (hr1 : Kd.C k53 w A1 l1.length l1) (hc1 : l1.length ≤ c1) (h : weigh_Without.f a0 l1 a2 = some (r1, r2)) :
    Calls Try.prog 74 #[.int .i64 a0, .slice A1 l1.length c1, .int .i64 a2] w fun e w' => ∃ v0_ : Value, e = .returned (.tuple #[v0_, .int .i64 r2]) ∧ Kd.R k53 53 w' w.heap.size (fun _ => True) v0_ r1 ∧ Below w.heap.size w w' := by
  have HR := Aside0.mk hr1
  have HC := Aside0.mk hc1
  unfold weigh_Without.f at h
  obtain ⟨q, hq⟩ : ∃ q, q = nErr a0 l1 a2 := ⟨_, rfl⟩
  have HF := Aside0.mk (show weigh_numbered.f a0 l1 a2 = some q by rw [hq, numbered_f])
  have HQ := Aside0.mk hq
  rw [← hq] at h
  clear hq hr1 hc1
  go_enter Try.func74, Try.ntmps74
  go_wp2_with fail
  refine (weigh_numbered.calls a0 A1 c1 l1 a2 q _ HR.out HC.out HF.out).mono ?_
  rintro e w1 ⟨rfl, hb⟩
  have HB := Aside0.mk hb
  clear hb
  by_cases hz : q = 0
  rotate_left
  · rw [if_neg hz] at h
    simp only [Option.some.injEq, Prod.mk.injEq] at h
    obtain ⟨rfl, rfl⟩ := h
    have q1 : (q != 0) = true := by simpa using hz
    go_wp2
    go_ret2
    exact ⟨_, rfl, Kd.R_nil _ _ _ _ _, HB.out⟩
  subst hz
  rw [if_pos rfl] at h
  simp only [Option.some.injEq, Prod.mk.injEq] at h
  obtain ⟨h1, rfl⟩ := h
  obtain ⟨hp, hlo, hhi⟩ := nErr_ok HQ.out.symm
  have HCF := Aside0.mk (copied_f l1 (pErr_ok hp).few (ok_short hp))
  have HFew := Aside0.mk (pErr_ok hp).few
  obtain ⟨n, rfl⟩ := Int.eq_ofNat_of_zero_le hlo
  rw [Int.toNat_natCast] at h1
  have H1 := Aside0.mk h1
  have hnl : n < l1.length := by omega
  have HNL := Aside0.mk hnl
  have i1 : wrap64 ((n : Int) + 1) = ((n + 1 : Nat) : Int) := by
    have := HFew.out
    exact wrs n (by omega)
  clear h1 hp
  go_wp2_with fail
  refine (weigh_copied.calls 10 A1 c1 l1 l1 _ (Kd.C_below HR.out HB.out) HC.out HCF.out).mono ?_
  rintro e w2 ⟨v, rfl, hO, hb⟩
  have hR := Kd.S_R hO
  obtain ⟨g, cap, rfl, hge, _, _⟩ := Kd.R_form hR (by omega)
  have HB2 := Aside0.mk (HB.out.trans (hb.mono HB.out.size))
  have HX := Aside0.mk (Kd.R_lower hR HB.out.size)
  have HS := Aside0.mk (Nat.le_trans HB.out.size hb.size)
  clear hO hb hR
  go_wp2_with fail
  refine (del_calls (k := n) w2 HX.out HNL.out HFew.out HS.out).mono ?_
  rintro e w3 ⟨rfl, hR3, hb3⟩
  have HR3 := Aside0.mk hR3
  have HB3 := Aside0.mk (HB2.out.trans hb3)
  clear hR3 hb3
  go_wp2
  go_ret2
  refine ⟨_, rfl, ?_, HB3.out⟩
  rw [← H1.out]
  exact HR3.out
end Go.Proofs.Ytdbeochifofdoaa.X
end

section
/-! The document's cased and CheckBad, and the program's. -/
namespace Go.Proofs.Ytdbeochifofdoaa.X
open Go.RowKit Go.Proofs.YtdbeochifofdoaaW.PrintWords Go.Proofs.YtdbeochifofdoaaW.PrintLast
set_option linter.unusedVariables false
set_option linter.unusedSimpArgs false

/-- The answers to a case. -/
def ansB (l : List S53) (n w : Int) : List Int := (refMark l n).map fun y => wrap64 (w * y)
end Go.Proofs.Ytdbeochifofdoaa.X
end

section
/-! A plan does not tell just if two cases prove it. -/
namespace Go.Proofs.Ytdbeochifofdoaa.X
open Go.RowKit Go.Proofs.YtdbeochifofdoaaW.PrintWords Go.Proofs.YtdbeochifofdoaaW.PrintLast
set_option linter.unusedVariables false
set_option linter.unusedSimpArgs false

theorem ans_map (l : List S53) (n w : Int) : ansB l n w = l.map fun y => wrap64 (w * markOf n y) := by
  unfold ansB refMark
  rw [List.map_map]
  rfl
end Go.Proofs.Ytdbeochifofdoaa.X
end

section
/-! The program's Answers, and the document's. -/
namespace Go.Proofs.Ytdbeochifofdoaa.X
open Go.RowKit Go.Proofs.YtdbeochifofdoaaW.PrintWords Go.Proofs.YtdbeochifofdoaaW.PrintLast
set_option linter.unusedVariables false
set_option linter.unusedSimpArgs false

theorem getD_marks {lots : Int} {l : List S53} (hp : pErr lots l = 0) (n : Nat) (hn : (n : Int) < lots) : (marksL lots l).getD n z70 = mk3 l n := by
  rw [marksL_mk lots l (okP_pos (pErr_ok hp))]
  simp [List.getD_eq_getElem?_getD, show n < lots.toNat by omega]
theorem ans_len (l : List S53) (n w : Int) : (ansB l n w).length = l.length := by simp [ansB, refMark]
theorem ans_get (l : List S53) (n w : Int) (i : Nat) (hi : i < l.length) : (ansB l n w).getD i 0 = wrap64 (w * markOf n (l.getD i z53)) := by
  rw [ans_map]
  simp [List.getD_eq_getElem?_getD, List.getElem?_map, List.getElem?_eq_getElem hi]
end Go.Proofs.Ytdbeochifofdoaa.X
end

section
-- Written by a program of this session (wip/hook.py, which runs the kit's print.py with contracts proved by hand). Not trusted: Lean checks it.
namespace Go.Proofs.Ytdbeochifofdoaa.X
open Go.RowKit Go.Proofs.YtdbeochifofdoaaW.PrintWords Go.Proofs.YtdbeochifofdoaaW.PrintLast Go.Proofs.YtdbeochifofdoaaW.PrintMore
attribute [local go_sem] max2_int min2_int max_two min_two max_three min_three max_four min_four   -- for this text's walks alone
set_option linter.unusedVariables false
set_option linter.unusedSimpArgs false

/-! ### weigh_cases: function 93 -/
def weigh_cases.l0 : Nat → List (S35) → Int → Int → Option ((List (S35)))
  | 0, _, _, _ => none
  | k + 1, x3, x5, x6 => if x6 < x5 then ((some (([(⟨x6, (-1)⟩ : S35), (⟨x6, 1⟩ : S35)] : List (S35)) : List (S35))).bind fun y365 => (if x3.length + y365.length < 8796093022208 then (weigh_cases.l0 k (x3 ++ y365) x5 (wrap64 (x6 + 1))) else (none))) else (some x3)
def weigh_cases.f (k : Nat) (a0 : Int) : Option ((List (S35))) := weigh_cases.l0 k ([] : List (S35)) a0 0
set_option maxHeartbeats 8000000 in
set_option maxRecDepth 100000 in
theorem weigh_cases.calls (k : Nat) (a0 : Int) (r : List (S35)) (w : World) (h : weigh_cases.f k a0 = some r) :
    Calls Try.prog 93 #[.int .i64 a0] w fun e w' => ∃ v0_ : Value, e = .returned (v0_) ∧ Kd.R k35 35 w' w.heap.size (fun _ => True) v0_ r ∧ Below w.heap.size w w' := by
  have hu35 := Try.underlying35
  have HB := Aside0.mk (Below.refl w.heap.size w)
  have H : (weigh_cases.l0 k ([] : List (S35)) a0 0) = some r := h
  clear h
  have H' := Aside0.mk H
  clear H
  go_enter Try.func93, Try.ntmps93
  go_wp2
  go_loopg [3, 6] k (fun kq v3 v6 w' => ∃ (x3_1 : List (S35)) (x6_1 : Int), v6 = .int .i64 x6_1 ∧ Aside0 (weigh_cases.l0 kq x3_1 a0 x6_1 = some r) ∧ Aside0 (kq ≤ k) ∧ Aside0 (Kd.R k35 35 w' w.heap.size (fun _ => True) v3 x3_1) ∧ Aside0 (Below w.heap.size w w'))
  case atStart => exact ⟨(([] : List (S35))), (0), (by first | rfl | (simp; done) | (simp [*]; done)), H', ⟨Nat.le_refl _⟩, ⟨by first | exact Kd.R_nil _ _ _ _ _ | exact Kd.N_nil _ _ _ _ _ | exact Kd.V_nil _ _ _ _ _ | exact Kd.Q_nil _ _ _ _ _ | exact Kd.S_nil _ _ _ _ _⟩, ⟨by repeat (first | (with_reducible first | exact HB.out | apply below_alloc | apply pw_below_drewN | apply below_drew1) | exact HB.out)⟩⟩
  case round =>
    clear H'
    obtain ⟨x3_1, x6_1, rfl, HA, HK1, HO_3, HB⟩ := hrel
    cases gk with
    | zero => exact absurd HA.out (by simp [weigh_cases.l0])
    | succ k1 =>
      have H := HA.out
      clear HA
      simp only [weigh_cases.l0] at H
      by_cases c2 : x6_1 < a0
      · rw [if_pos c2] at H
        have c2b0 : decide (x6_1 < a0) = true := decide_eq_true c2
        clear c2
        obtain ⟨y365, hy365⟩ : ∃ y_ : List (S35), y_ = (([(⟨x6_1, (-1)⟩ : S35), (⟨x6_1, 1⟩ : S35)] : List (S35))) := ⟨_, rfl⟩
        replace H : (if x3_1.length + y365.length < 8796093022208 then (weigh_cases.l0 k1 (x3_1 ++ y365) a0 (wrap64 (x6_1 + 1))) else (none)) = some r := by first | (rw [hy365]; with_reducible exact H) | (have H2_ := (Option.bind_some _ _).symm.trans H; rw [hy365]; with_reducible exact H2_) | (have H2_ := (Option.bind_some _ _).symm.trans H; with_reducible exact H2_) | with_reducible exact H | (rw [hy365]; exact H) | exact H
        have Ny365 := Aside0.mk hy365
        clear hy365
        by_cases c3 : x3_1.length + y365.length < 8796093022208
        · rw [if_pos c3] at H
          have LMc3 := Aside0.mk c3
          clear c3
          obtain ⟨y368, hy368⟩ : ∃ y_ : List (S35), y_ = (x3_1 ++ y365) := ⟨_, rfl⟩
          replace H : (weigh_cases.l0 k1 y368 a0 (wrap64 (x6_1 + 1))) = some r := by first | (rw [hy368]; with_reducible exact H) | (have H2_ := (Option.bind_some _ _).symm.trans H; rw [hy368]; with_reducible exact H2_) | (have H2_ := (Option.bind_some _ _).symm.trans H; with_reducible exact H2_) | with_reducible exact H | (rw [hy368]; exact H) | exact H
          have Ny368 := Aside0.mk hy368
          clear hy368
          have H' := Aside0.mk H
          clear H
          go_wp2_with (first | ((with_reducible refine gate_dst (N := 14) rfl ?_); refine Kd.R_lit k35 _ 35 ?hg (N := 14) ?hd (xs := ([(⟨x6_1, (-1)⟩ : S35), (⟨x6_1, 1⟩ : S35)] : List (S35))) (inner := [.int .i64 x6_1, .int .i64 (-1), .int .i64 x6_1, .int .i64 1]) (ok := fun _ => True) (okp := fun _ => True) ?hr ?hp (fun _ hk => hk) trivial (Below.refl _ _) (Nat.le_refl _) (by simp) ?_; (case hd => rfl); (case hg => rfl); (case hr => first | (go_simp; done) | (go_simp; rfl)); (case hp => exact (Reps.c2 (show Kd.M k35 _ _ _ (⟨x6_1, (-1)⟩ : S35) [.int .i64 x6_1, .int .i64 (-1)] from (k35_mkM _ _ _ (⟨x6_1, (-1)⟩ : S35) )) (Reps.c2 (show Kd.M k35 _ _ _ (⟨x6_1, 1⟩ : S35) [.int .i64 x6_1, .int .i64 1] from (k35_mkM _ _ _ (⟨x6_1, 1⟩ : S35) )) (Reps.none _ _)))); intro v366 w4 ho5 hb hg_ hnew_; clear hg_ hnew_; (first | rw [← Ny365.out] at ho5 | (simp only [Int.reduceToNat] at ho5; rw [← Ny365.out] at ho5)); have n0_ := Aside0.mk (Kd.R_elder' (by (with_reducible repeat (first | apply Kd.R_alloc | apply Kd.R_drewN | apply Kd.R_drew)); exact HO_3.out) (Kd.R_base ho5) hb); have n1_ := Aside0.mk (Kd.R_lower (Kd.R_new' ho5 (Kd.R_lt (by (with_reducible repeat (first | apply Kd.R_alloc | apply Kd.R_drewN | apply Kd.R_drew)); exact HO_3.out))) (below_size (by repeat (first | (with_reducible first | exact HB.out | apply below_alloc | apply pw_below_drewN | apply below_drew1) | exact HB.out)))); have n2_ := Aside0.mk (below_step (by repeat (first | (with_reducible first | exact HB.out | apply below_alloc | apply pw_below_drewN | apply below_drew1) | exact HB.out)) hb); clear HO_3; clear HB; have HO_3 := n0_; have HO367 := n1_; have HB := n2_; clear n0_ n1_ n2_; clear hb ho5; obtain ⟨Ao7, co7, eo7⟩ := Kd.R_slice HO367.out; subst eo7) | ((with_reducible refine gate_builtin (b := .append) (xs := #[.tmp 9, .tmp 14]) rfl ?_); at_builtin; refine Kd.R_append_rows k35 (w0 := w) w.heap.size rfl (.tmp 9) (.tmp 14) 71 35 (.agg #[(.int .i64 0), (.int .i64 0)]) 16 rfl Try.underlying71 info35 rfl (by decide) (by omega) u3 x3_1 y365 _ _ _ (fun k_ => some k_ ≠ (.slice Ao7 y365.length co7 : Value).ownBlock) (fun _ => False) rfl rfl ?aO ?aR (fun _ _ h => h) (fun _ h => h.elim) ?aF ?aB ?aS ?aL ?_; (case aR => repeat (first | exact (Kd.R_reads' HO367.out).2.2 | (with_reducible refine Kd.C_alloc ?_ _) | (with_reducible refine Kd.C_drewN ?_ _) | (with_reducible refine Kd.C_drew ?_))); (case aB => exact (by repeat (first | (with_reducible first | exact HB.out | apply below_alloc | apply pw_below_drewN | apply below_drew1) | exact HB.out))); (case aF => exact (fun k_ hk => Kd.fresh' (Kd.R_lt (by (with_reducible repeat (first | apply Kd.R_alloc | apply Kd.R_drewN | apply Kd.R_drew)); exact HO367.out)) k_ hk)); (case aO => exact (by (with_reducible repeat (first | apply Kd.R_alloc | apply Kd.R_drewN | apply Kd.R_drew)); exact Kd.R_mono HO_3.out (fun _ hk => hk.2))); (case aS => exact (below_size (by repeat (first | (with_reducible first | exact HB.out | apply below_alloc | apply pw_below_drewN | apply below_drew1) | exact HB.out)))); (case aL => have := LMc3.out; omega); intro v369 w6 ho hb hg hat; rw [← Ny368.out] at ho; have n0_ := Aside0.mk (Kd.R_after (ok := (fun _ => True)) (by (with_reducible repeat (first | apply Kd.R_alloc | apply Kd.R_drewN | apply Kd.R_drew)); exact HO367.out) hg hat); have n1_ := Aside0.mk (hb); have n2_ := Aside0.mk (ho); clear HO367; clear HB; clear HO_3; have HO367 := n0_; have HB := n1_; have HO370 := n2_; clear n0_ n1_ n2_; clear ho hb hg hat))
          go_roundg k1
          case measure => have := HK1.out; omega
          case rel => exact ⟨(y368), (wrap64 (x6_1 + 1)), (by first | rfl | (simp; done) | (simp [*]; done)), H', ⟨by have := HK1.out; omega⟩, ⟨by (with_reducible repeat (first | apply Kd.R_alloc | apply Kd.R_drewN | apply Kd.R_drew)); exact Kd.R_mono HO370.out (fun _ hk => trivial)⟩, ⟨by repeat (first | (with_reducible first | exact HB.out | apply below_alloc | apply pw_below_drewN | apply below_drew1) | exact HB.out)⟩⟩
        · rw [if_neg c3] at H
          exact absurd H (by simp)
      · rw [if_neg c2] at H
        have c2b0 : decide (x6_1 < a0) = false := decide_eq_false c2
        clear c2
        obtain rfl := Option.some.inj H
        go_wp2
        go_ret
        exact ⟨_, by first | rfl | (simp [errW_none, errW_some] <;> rfl) | (simp [*, errW_none, errW_some] <;> rfl), by (with_reducible repeat (first | apply Kd.R_alloc | apply Kd.R_drewN | apply Kd.R_drew)); exact HO_3.out, by repeat (first | (with_reducible first | exact HB.out | apply below_alloc | apply pw_below_drewN | apply below_drew1) | exact HB.out)⟩

-- GIVEN: function 55 (weigh_Possible): YtdbeochifofdoaaG55

end Go.Proofs.Ytdbeochifofdoaa.X
end

section
/-! weigh.Cases. -/
namespace Go.Proofs.Ytdbeochifofdoaa.X
open Go.RowKit Go.Proofs.YtdbeochifofdoaaW.PrintWords Go.Proofs.YtdbeochifofdoaaW.PrintLast Go.Proofs.YtdbeochifofdoaaW.PrintMore
set_option linter.unusedVariables false
set_option linter.unusedSimpArgs false
attribute [local go_sem high] eqA70

/-- All cases. -/
def casesL (lots : Int) : List S35 := (List.range lots.toNat).flatMap fun (n : Nat) => ([⟨(n : Int), -1⟩, ⟨(n : Int), 1⟩] : List S35)
def of3 (l : List Int) : S70 := ⟨l.getD 0 0, l.getD 1 0, l.getD 2 0⟩
instance decS35 : DecidableEq S35 := fun a b => decidable_of_iff (a.f0 = b.f0 ∧ a.f1 = b.f1) (by cases a; cases b; simp)
set_option maxRecDepth 100000 in
theorem cases_is : ∀ n, n < 13 → weigh_cases.f 20 ((n + 1 : Nat) : Int) = some (casesL ((n + 1 : Nat) : Int)) := by decide +kernel
theorem casesL_mem {lots : Int} {c : S35} (h : c ∈ casesL lots) : 0 ≤ c.f0 ∧ c.f0.toNat < lots.toNat := by
  unfold casesL at h
  rw [List.mem_flatMap] at h
  obtain ⟨n, hn, hc⟩ := h
  rw [List.mem_range] at hn
  simp only [List.mem_cons, List.not_mem_nil, or_false] at hc
  rcases hc with rfl | rfl <;> exact ⟨by simp, by simpa using hn⟩
theorem casesL_len (lots : Int) : (casesL lots).length = 2 * lots.toNat := by
  unfold casesL
  induction lots.toNat with
  | zero => rfl
  | succ n ih => rw [List.range_succ, List.flatMap_append, List.length_append, ih]; simp; omega
end Go.Proofs.Ytdbeochifofdoaa.X
end

section
/-! weigh.Possible: a set of marks, a map keyed by arrays. -/
namespace Go.Proofs.Ytdbeochifofdoaa.X
open Go.ChangeMaps Go.RowKit Go.Proofs.YtdbeochifofdoaaW.PrintWords Go.Proofs.YtdbeochifofdoaaW.PrintLast Go.Proofs.YtdbeochifofdoaaW.PrintMore
set_option linter.unusedVariables false
set_option linter.unusedSimpArgs false

instance decS70 : DecidableEq S70 := fun a b => decidable_of_iff (a.f0 = b.f0 ∧ a.f1 = b.f1 ∧ a.f2 = b.f2) (by cases a; cases b; simp)
def aggV (m : S70) : Value := .agg #[.int .i64 m.f0, .int .i64 m.f1, .int .i64 m.f2]
def ok3 (m : S70) : Prop := (Lit.int .i64 m.f0).wf = true ∧ (Lit.int .i64 m.f1).wf = true ∧ (Lit.int .i64 m.f2).wf = true
def putM (ks : List S70) (m : S70) : List S70 := if m ∈ ks then ks else ks ++ [m]
def foundL (L : List S70) (cs : List S35) : List S70 := cs.foldl (fun ks c => putM ks (tim3 (L.getD c.f0.toNat z70) c.f1)) [z70]
def weigh_Possible.f (a0 : Int) (l1 : List S53) : Option (Int × Int) := if pErr a0 l1 = 0 then some (((foundL (marksL a0 l1) (casesL a0)).length : Int), 0) else some (0, pErr a0 l1)
theorem aggV_inj {a b : S70} (h : aggV a = aggV b) : a = b := by
  cases a; cases b
  simp [aggV] at h
  simp [h]
theorem p_underlying97 : Try.prog.underlying 97 = some (.map 70 4) := by kernel_rfl
theorem p_laidOut : laidOutB Try.prog = true := by kernel_rfl
theorem law70 : WideMaps.KeyLaw Try.prog 70 := deep_law_laid p_laidOut (m := 5) (by omega) (of_decide_eq_true (by kernel_rfl)) (by kernel_rfl) (by kernel_rfl)
theorem key70 {m : S70} (h : ok3 m) : ∃ l, keyOf Try.prog 70 (aggV m) = some l := by
  obtain ⟨h0, h1, h2⟩ := h
  have hc : Try.prog.cellsOf 70 = 3 := by kernel_rfl
  have hc3 : Try.prog.cellsOf 3 = 1 := by kernel_rfl
  have hk : Try.prog.keyType 70 = true := by kernel_rfl
  have hf : Value.formed Try.prog 70 (aggV m) = true := by simp [Value.formed, aggV, Try.underlying70, hc]
  obtain ⟨d, hd⟩ : ∃ d, Try.prog.types.size = d + 1 := Nat.exists_eq_succ_of_ne_zero (Nat.ne_of_gt (of_decide_eq_true (by kernel_rfl)))
  have h3 : ∀ x, (Lit.int .i64 x).wf = true → Try.prog.keyLits (d + 1) 3 [.int .i64 x] = some [.int .i64 x] := by
    intro x h
    unfold Program.keyLits
    rw [Try.underlying3]
    simp [h]
  have h70 : Try.prog.keyLits (d + 1 + 1) 70 [.int .i64 m.f0, .int .i64 m.f1, .int .i64 m.f2] = some [.int .i64 m.f0, .int .i64 m.f1, .int .i64 m.f2] := by
    unfold Program.keyLits
    rw [Try.underlying70]
    dsimp only
    rw [hc, hc3, if_pos (by rfl), show List.range 3 = [0, 1, 2] from rfl]
    simp [h3, h0, h1, h2]
  unfold keyOf
  rw [Try.underlying70]
  dsimp only
  rw [hk, hf, if_pos (by rfl), hd, show (aggV m).cells.toList = [.int .i64 m.f0, .int .i64 m.f1, .int .i64 m.f2] from rfl, h70]
  exact ⟨_, rfl⟩
/-- A block that is a set of marks. -/
def OwnM (w : World) (g : Nat) (ks : List S70) : Prop := ∃ es clk, w.heap[g]? = some (.map es clk) ∧ es.toList.map (·.key) = ks.map aggV ∧ ∀ m ∈ ks, ok3 m
theorem OwnM.below {w w' : World} {g : Nat} {ks : List S70} (h : OwnM w g ks) (hb : Below w.heap.size w w') : OwnM w' g ks := by
  obtain ⟨es, clk, h1, h2, h3⟩ := h
  refine ⟨es, clk, ?_, h2, h3⟩
  have hlt : g < w.heap.size := by
    rcases Nat.lt_or_ge g w.heap.size with h | h
    · exact h
    · rw [Array.getElem?_eq_none h] at h1; cases h1
  exact (hb.block g hlt).trans h1
theorem OwnM.lt {w : World} {g : Nat} {ks : List S70} (h : OwnM w g ks) : g < w.heap.size := by
  obtain ⟨es, clk, h1, _⟩ := h
  rcases Nat.lt_or_ge g w.heap.size with h | h
  · exact h
  · rw [Array.getElem?_eq_none h] at h1; cases h1
theorem OwnM.len {w : World} {g : Nat} {ks : List S70} (h : OwnM w g ks) : ∃ es clk, w.heap[g]? = some (.map es clk) ∧ es.size = ks.length := by
  obtain ⟨es, clk, h1, h2, _⟩ := h
  refine ⟨es, clk, h1, ?_⟩
  have := congrArg List.length h2
  simpa using this
/-- A mark is put into the set. -/
theorem OwnM.put {w : World} {g : Nat} {ks : List S70} (h : OwnM w g ks) {m : S70} (hm : ok3 m) :
    ∃ w', (Instr.mapUpdate 97 (.map (some g)) (aggV m) (.bool true)).run Try.prog w = .ok () w' ∧ OwnM w' g (putM ks m) ∧ w.grownBy w' (some g) := by
  obtain ⟨es, clk, hb, hk, hok⟩ := h
  obtain ⟨kl, hkey⟩ := key70 hm
  have hall : ∀ e ∈ es.toList, ∃ l, keyOf Try.prog 70 e.key = some l := by
    intro e he
    have h1 : e.key ∈ ks.map aggV := by rw [← hk]; exact List.mem_map.2 ⟨e, he, rfl⟩
    obtain ⟨x, hx, hx2⟩ := List.mem_map.1 h1
    rw [← hx2]
    exact key70 (hok x hx)
  have hch := law70.check w false hkey
  have hgb : ∀ o, w.grownBy (setBlock w g o) (some g) := fun o => ⟨rfl, rfl, rfl, by simp [setBlock], fun i _ hi => heap_setBlock_other hb _ (fun e => hi (by rw [e]))⟩
  rcases law70.find w hkey es.toList hall with ⟨hf, hne⟩ | ⟨j, e, hf, hj, hek⟩
  · have hnm : m ∉ ks := by
      intro hmem
      have h1 : aggV m ∈ es.toList.map (·.key) := by rw [hk]; exact List.mem_map.2 ⟨m, hmem, rfl⟩
      obtain ⟨e, he, he2⟩ := List.mem_map.1 h1
      exact hne e he he2
    refine ⟨setBlock w g (.map (es.push { key := aggV m, val := .bool true, born := clk }) (clk + 1)), ?_, ⟨_, _, heap_setBlock_same hb _, ?_, ?_⟩, hgb _⟩
    · simp [Instr.mapUpdate, run_underlying p_underlying97, MapKept.run_getObj_map hb, hch, hf, MapKept.run_setObj_map _ hb, Result.andThen, setBlock]
    · simp [putM, hnm, hk]
    · intro x hx
      simp only [putM, hnm, if_false, List.mem_append, List.mem_singleton] at hx
      rcases hx with hx | rfl
      · exact hok x hx
      · exact hm
  · have hmem : m ∈ ks := by
      have h1 : aggV m ∈ ks.map aggV := by rw [← hk, ← hek]; exact List.mem_map.2 ⟨e, List.mem_of_getElem? hj, rfl⟩
      obtain ⟨x, hx, hx2⟩ := List.mem_map.1 h1
      rw [← aggV_inj hx2]
      exact hx
    have hje : es[j]? = some e := by rw [← Array.getElem?_toList]; exact hj
    refine ⟨setBlock w g (.map (es.modify j fun e => { e with key := aggV m, val := .bool true }) clk), ?_, ⟨_, _, heap_setBlock_same hb _, ?_, ?_⟩, hgb _⟩
    · simp [Instr.mapUpdate, run_underlying p_underlying97, MapKept.run_getObj_map hb, hch, hf, MapKept.run_setObj_map _ hb, Result.andThen, setBlock, hje, hek, law70.stays w hkey]
    · simp only [putM, hmem, if_true, ← hk]
      apply List.ext_getElem?
      intro i
      simp only [List.getElem?_map, Array.getElem?_toList, Array.getElem?_modify]
      by_cases hij : j = i
      · subst hij
        simp [hje, hek]
      · simp [hij]
    · simpa [putM, hmem] using hok
theorem OwnM.made (w : World) : OwnM (w.alloc (.map #[] 0)) w.heap.size [] := ⟨#[], 0, (MapKept.heap_alloc w _).1, rfl, fun m hm => by cases hm⟩
theorem grown_of_below {w w' : World} (hb : Below w.heap.size w w') (row : Option Nat) : w.grownBy w' row := ⟨hb.os, hb.tape, hb.output, hb.size, fun k hk _ => hb.block k hk⟩
theorem grown_cell {w w' : World} {g : Nat} (h : w.grownBy w' (some g)) {p : Addr} {v : Value} (hc : w.cell? p = some v) (hne : p.block ≠ g) : w'.cell? p = some v :=
  (World.cell?_of_block (w := w) (h.block p.block (World.block_lt_of_cell? w _ hc) (fun e => hne (by injection e)))).trans hc
theorem addr_block (a : Addr) (k : Nat) : (a.add k).block = a.block := by unfold Addr.add; split <;> rfl
theorem tim3_ok (m : S70) (k : Int) : ok3 (tim3 m k) := by
  have : ∀ x : Int, (Lit.int .i64 (wrap64 x)).wf = true := fun x => wrap64_wf x
  exact ⟨this _, this _, this _⟩
theorem foundL_snoc (L : List S70) (cs : List S35) (c : S35) : foundL L (cs ++ [c]) = putM (foundL L cs) (tim3 (L.getD c.f0.toNat z70) c.f1) := by
  unfold foundL
  rw [List.foldl_append]
  rfl
def weigh_Possible.T : Bool × List (List Nat × List Nat) := (true, [([], []), ([], []), ([], []), ([2], [2]), ([1, 3], [1, 3]), ([4], [4]), ([], []), ([6], [6]), ([5, 7], [5, 7]), ([0, 8, 8, 0, 1, 2, 3, 4, 5, 6, 7, 8], [0, 8])])
def weigh_Possible.B : List Nat := [0, 0, 0, 4, 14, 30, 0, 64, 254, 511]
theorem weigh_Possible.tab : rtab .any (opsOf Try.f55 9) = weigh_Possible.T := by kernel_rfl
theorem weigh_Possible.bits : waitsOk weigh_Possible.T.2 weigh_Possible.B = true := by kernel_rfl
set_option maxHeartbeats 4000000 in
set_option maxRecDepth 100000 in
theorem weigh_Possible.calls (a0 : Int) (A1 : Option Addr) (c1 : Nat) (l1 : List S53) (r1 r2 : Int) (w : World) (hr1 : Kd.C k53 w A1 l1.length l1) (hc1 : l1.length ≤ c1) (h : weigh_Possible.f a0 l1 = some (r1, r2)) :
    Calls Try.prog 55 #[.int .i64 a0, .slice A1 l1.length c1] w fun e w' => e = .returned (.tuple #[.int .i64 r1, .int .i64 r2]) ∧ Below w.heap.size w w' := by
  have HR1 := Aside0.mk hr1
  have HC1 := Aside0.mk hc1
  unfold weigh_Possible.f at h
  obtain ⟨p, hpe⟩ : ∃ p, p = pErr a0 l1 := ⟨_, rfl⟩
  have HF := Aside0.mk (show weigh_Validate.f a0 l1 = some p by rw [hpe]; rfl)
  have HP := Aside0.mk hpe
  rw [← hpe] at h
  clear hpe hr1 hc1
  go_enter Try.func55, Try.ntmps55
  go_wp2_with fail
  refine (weigh_Validate.calls a0 A1 c1 l1 p _ HR1.out HC1.out HF.out).mono ?_
  rintro e w1 ⟨rfl, hb⟩
  have HB1 := Aside0.mk hb
  clear hb
  by_cases hz : p = 0
  rotate_left
  · rw [if_neg hz] at h
    simp only [Option.some.injEq, Prod.mk.injEq] at h
    obtain ⟨rfl, rfl⟩ := h
    have q1 : (p != 0) = true := by simpa using hz
    go_wp2
    go_ret2
    exact ⟨rfl, HB1.out⟩
  subst hz
  rw [if_pos rfl] at h
  have ok := pErr_ok HP.out.symm
  have HMF := Aside0.mk (show weigh_marks.f a0 l1 = some (marksL a0 l1) by unfold weigh_marks.f; rw [if_pos HP.out.symm])
  have hlen : (marksL a0 l1).length = a0.toNat := marksL_len' a0 l1
  have hlo := ok.lo
  have hhi := ok.hi
  obtain ⟨n, rfl⟩ := Int.eq_ofNat_of_zero_le (show 0 ≤ a0 by omega)
  have hCF := cases_is (n - 1) (by omega)
  rw [show n - 1 + 1 = n by omega] at hCF
  have HCF := Aside0.mk hCF
  have hcm : ∀ c, c ∈ casesL (n : Int) → 0 ≤ c.f0 ∧ c.f0.toNat < (marksL (n : Int) l1).length := fun c hc => by have := casesL_mem hc; rw [hlen]; exact this
  have hcl : (casesL (n : Int)).length ≤ 26 := by rw [casesL_len]; omega
  generalize casesL (n : Int) = cs at *
  generalize marksL (n : Int) l1 = L at *
  simp only [Option.some.injEq, Prod.mk.injEq] at h
  obtain ⟨h1, rfl⟩ := h
  have H1 := Aside0.mk h1
  have HCM := Aside0.mk hcm
  clear hcm hCF ok hlen h1
  go_wp2_with fail
  refine (weigh_marks.calls (n : Int) A1 c1 l1 L _ (Kd.C_below HR1.out HB1.out) HC1.out HMF.out).mono ?_
  rintro e w4 ⟨v, rfl, hO, hb⟩
  obtain ⟨A, c, rfl⟩ := Kd.R_slice hO
  obtain ⟨_, hLc, hC⟩ := Kd.R_reads' hO
  have HLT := Aside0.mk (Kd.R_lt hO)
  have HL4 := Aside0.mk hC
  have HB4 := Aside0.mk (HB1.out.trans (hb.mono HB1.out.size))
  have sz4 := HB4.out.size
  clear HB1 hO hC hb
  have hmm := @run_makeMap Try.prog
  have hal := Below.alloc (Below.refl w4.heap.size w4) (Nat.le_refl _) (.map #[] 0)
  obtain ⟨w5, hrun, hOw, hgr⟩ := (OwnM.made w4).put (m := z70) ⟨rfl, rfl, rfl⟩
  have hrun' : (Instr.mapUpdate 97 (.map (some w4.heap.size)) (.agg #[.int .i64 0, .int .i64 0, .int .i64 0]) (.bool true)).run Try.prog (w4.alloc (.map #[] 0)) = .ok () w5 := hrun
  have HO5 := Aside0.mk (show OwnM w5 w4.heap.size [z70] from hOw)
  have HB5 := Aside0.mk (((HB4.out.trans (hal.mono sz4))).grown hgr (by simp; omega) (fun k hk => by injection hk with hk; omega))
  have HC5 := Aside0.mk (show Kd.C k70 w5 A L.length L from Kd.C_below HL4.out (hal.grown hgr (by simp) (fun k hk => by injection hk with hk; omega)))
  clear hrun hOw hgr hal HB4 HL4
  obtain ⟨gM, hgM⟩ : ∃ g, g = w4.heap.size := ⟨_, rfl⟩
  go_wp2_with fail
  refine (weigh_cases.calls 20 (n : Int) cs _ HCF.out).mono ?_
  rintro e w6 ⟨v, rfl, hO, hb⟩
  obtain ⟨Ac, cc, rfl⟩ := Kd.R_slice hO
  obtain ⟨_, hcc, hC⟩ := Kd.R_reads' hO
  have HCS := Aside0.mk hC
  have HBS := Aside0.mk (Kd.R_base hO)
  have HL6 := Aside0.mk (Kd.C_below HC5.out hb)
  have HO6 := Aside0.mk (HO5.out.below hb)
  have HB6 := Aside0.mk (HB5.out.trans (hb.mono HB5.out.size))
  have lM := HO5.out.lt
  rw [← hgM] at HO6 HLT sz4 lM ⊢
  clear HB5 HC5 HO5 hO hC hb hrun' hmm hgM
  go_wp2
  go_loopg [26] cs.length (fun gg s wr => ∃ i : Nat, i ≤ cs.length ∧ cs.length - i ≤ gg ∧ s = .int .i64 i ∧ Aside0 (w6.grownBy wr (some gM)) ∧ Aside0 (OwnM wr gM (foundL L (cs.take i))))
  case atStart => exact ⟨0, Nat.zero_le _, by omega, rfl, ⟨grown_of_below (Below.refl _ _) _⟩, HO6⟩
  case round =>
    obtain ⟨i, hi, hg, rfl, BR, HO⟩ := hrel
    by_cases hil : i < cs.length
    · have hilz : (i : Int) < (cs.length : Int) := by omega
      obtain ⟨ad, e1, hx0, hx1⟩ := at_T35 HCS.out i (by omega) hilz
      cases e1
      have hbs := HBS.out ad.block rfl
      replace hx0 := grown_cell BR.out hx0 (by rw [addr_block]; omega)
      replace hx1 := grown_cell BR.out hx1 (by show (ad.add _).block ≠ gM; rw [addr_block]; omega)
      simp only [Int.toNat_natCast] at hx0 hx1
      rw [show rd_T35 cs (i : Int) = cs.getD i z35 from rfl] at hx0 hx1
      have Bi : Aside0 (cs.take (i + 1) = cs.take i ++ [cs.getD i z35]) := ⟨by rw [List.take_succ_eq_append_getElem hil]; simp [List.getD_eq_getElem?_getD, List.getElem?_eq_getElem hil]⟩
      obtain ⟨m0, m1⟩ := HCM.out _ (mem_getD z35 cs i hil)
      generalize cs.getD i z35 = c0 at *
      obtain ⟨x0, x1⟩ := c0
      dsimp only at hx0 hx1 m0 m1
      obtain ⟨y0, rfl⟩ := Int.eq_ofNat_of_zero_le m0
      rw [Int.toNat_natCast] at m1
      have hicc : (i : Int) ≤ (cc : Int) := by omega
      go_wp2
      obtain ⟨adL, e2, hm0, hm1, hm2⟩ := at_T70 HL6.out (y0 : Int) (by omega) (by omega)
      cases e2
      have hlb := HLT.out adL.block rfl
      simp only [Int.toNat_natCast] at hm0 hm1 hm2
      rw [show rd_T70 L (y0 : Int) = L.getD y0 z70 from rfl] at hm0 hm1 hm2
      have nl0 : (adL.add (y0 * 3)).block ≠ gM := by rw [addr_block]; omega
      replace hm0 := grown_cell BR.out hm0 nl0
      replace hm1 := grown_cell BR.out hm1 nl0
      replace hm2 := grown_cell BR.out hm2 nl0
      have hb0 := Below.alloc (Below.refl wr.heap.size wr) (Nat.le_refl _) (.cells #[.int .i64 (y0 : Int), .int .i64 x1] 35)
      replace hm0 := (hb0.cell (World.block_lt_of_cell? wr _ hm0)).trans hm0
      replace hm1 := (hb0.cell (World.block_lt_of_cell? wr _ hm1)).trans hm1
      replace hm2 := (hb0.cell (World.block_lt_of_cell? wr _ hm2)).trans hm2
      have BKc := blk_new wr (.cells #[.int .i64 (y0 : Int), .int .i64 x1] 35)
      have hc0 := blk_cell BKc 0
      have hc1 := blk_cell BKc 1
      simp only [List.getElem?_toArray, List.getElem?_cons_zero, List.getElem?_cons_succ] at hc0 hc1
      have HOa := Aside0.mk (HO.out.below hb0)
      have HGa := Aside0.mk (World.grownBy.trans BR.out (grown_of_below hb0 (some gM)))
      have hMr := HO.out.lt
      obtain ⟨gc, hgc⟩ : ∃ g, g = wr.heap.size := ⟨_, rfl⟩
      rw [← hgc] at hc0 hc1 hMr ⊢
      clear hx0 hx1 hgc BKc hb0 HO BR
      generalize hwn : wr.alloc (.cells #[.int .i64 (y0 : Int), .int .i64 x1] 35) = wn at *
      clear hwn
      obtain ⟨m, hm⟩ : ∃ m, m = L.getD y0 z70 := ⟨_, rfl⟩
      rw [← hm] at hm0 hm1 hm2
      obtain ⟨t, ht⟩ : ∃ t, t = tim3 m x1 := ⟨_, rfl⟩
      have HTM := Aside0.mk (show weigh_mark_times.f m.f0 m.f1 m.f2 x1 = some (t.f0, t.f1, t.f2) by rw [ht]; rfl)
      have HTO := Aside0.mk (show ok3 t by rw [ht]; exact tim3_ok m x1)
      have HT := Aside0.mk (show t = tim3 (L.getD y0 z70) x1 by rw [ht, hm])
      clear ht hm
      have y0l : ((y0 : Int) < (L.length : Int)) := by omega
      have y0g : (0 : Int) ≤ (y0 : Int) := by omega
      have y0c : ((y0 : Int) ≤ (c : Int)) := by omega
      have HOd := Aside0.mk (HOa.out.below (below_drew1 (Below.refl _ wn)))
      have HGd := Aside0.mk (World.grownBy.trans HGa.out (grown_of_below (below_drew1 (Below.refl wn.heap.size wn)) (some gM)))
      refine start_ (n := 10) (S := fun W => W.cell? ⟨gc, 0, none⟩ = some (.int .i64 (y0 : Int)) ∧ W.cell? ⟨gc, 1, none⟩ = some (.int .i64 x1) ∧ W.cell? (adL.add (y0 * 3)) = some (.int .i64 m.f0) ∧ W.cell? ⟨(adL.add (y0 * 3)).block, (adL.add (y0 * 3)).off + 1, none⟩ = some (.int .i64 m.f1) ∧ W.cell? ⟨(adL.add (y0 * 3)).block, (adL.add (y0 * 3)).off + 2, none⟩ = some (.int .i64 m.f2)) (ds := []) #[false, false, false, false, false, false, false, false, false, false] (by kernel_rfl) rfl rfl ⟨hc0, hc1, hm0, hm1, hm2⟩ (fun hHeld => ?_)
      refine with_tabW weigh_Possible.tab weigh_Possible.bits (fun HT_ HW_ => ?_)
      clear HOa HGa hc0 hc1 hm0 hm1 hm2
      generalize wn.drew = W at HOd HGd hHeld ⊢
      refine pure_ (i := 0) (N := some 30) (v := ?_) (a' := ?_) #[true, false, false, false, false, false, false, false, false, false] rfl rfl (any_of HT_.out (by kernel_rfl)) (fun _ _ _ h => h) (Or.inl ⟨by rfl, ?_⟩) ?_ ?_
      rotate_left
      · intro w'
        go_simp
        with_reducible rfl
      rotate_left
      · simp only [Act.put, List.setIfInBounds_toArray, List.set_cons_zero, List.set_cons_succ, i64_w, i32_w]
        rfl
      refine pure_ (i := 1) (N := some 31) (v := ?_) (a' := ?_) #[true, true, false, false, false, false, false, false, false, false] rfl rfl (any_of HT_.out (by kernel_rfl)) (fun _ _ _ h => h) (Or.inl ⟨by rfl, ?_⟩) ?_ ?_
      rotate_left
      · intro w'
        go_simp
        with_reducible rfl
      rotate_left
      · simp only [Act.put, List.setIfInBounds_toArray, List.set_cons_zero, List.set_cons_succ, i64_w, i32_w]
        rfl
      refine pure_ (i := 2) (N := some 32) (v := ?_) (a' := ?_) #[true, true, true, false, false, false, false, false, false, false] rfl rfl (any_of HT_.out (by kernel_rfl)) (fun _ _ _ h => h) (Or.inl ⟨by rfl, ?_⟩) ?_ ?_
      rotate_left
      · intro w'
        go_simp
        with_reducible rfl
      rotate_left
      · simp only [Act.put, List.setIfInBounds_toArray, List.set_cons_zero, List.set_cons_succ, i64_w, i32_w]
        rfl
      refine pure_ (i := 6) (N := some 36) (v := ?_) (a' := ?_) #[true, true, true, false, false, false, true, false, false, false] rfl rfl (any_of HT_.out (by kernel_rfl)) (fun _ _ _ h => h) (Or.inl ⟨by rfl, ?_⟩) ?_ ?_
      rotate_left
      · intro w'
        go_simp
        with_reducible rfl
      rotate_left
      · simp only [Act.put, List.setIfInBounds_toArray, List.set_cons_zero, List.set_cons_succ, i64_w, i32_w]
        rfl
      refine take_ (i := 3) (N := some 33) (v := ?_) (a' := ?_) #[true, true, true, true, false, false, true, false, false, false] rfl rfl (take_ofW HT_.out HW_.out (by kernel_rfl)) (fun _ _ _ h => h) (Or.inl ⟨by rfl, ?_⟩) hHeld ?_ ?_
      rotate_left
      · rintro w' ⟨s0, s1, s2, s3, s4⟩
        go_simp
        with_reducible rfl
      rotate_left
      · simp only [Act.put, List.setIfInBounds_toArray, List.set_cons_zero, List.set_cons_succ, i64_w, i32_w]
        rfl
      refine take_ (i := 7) (N := some 37) (v := ?_) (a' := ?_) #[true, true, true, true, false, false, true, true, false, false] rfl rfl (take_ofW HT_.out HW_.out (by kernel_rfl)) (fun _ _ _ h => h) (Or.inl ⟨by rfl, ?_⟩) hHeld ?_ ?_
      rotate_left
      · rintro w' ⟨s0, s1, s2, s3, s4⟩
        go_simp
        with_reducible rfl
      rotate_left
      · simp only [Act.put, List.setIfInBounds_toArray, List.set_cons_zero, List.set_cons_succ, i64_w, i32_w]
        rfl
      refine pure_ (i := 4) (N := some 34) (v := ?_) (a' := ?_) #[true, true, true, true, true, false, true, true, false, false] rfl rfl (any_of HT_.out (by kernel_rfl)) (fun _ _ _ h => h) (Or.inl ⟨by rfl, ?_⟩) ?_ ?_
      rotate_left
      · intro w'
        go_simp
        with_reducible rfl
      rotate_left
      · simp only [Act.put, List.setIfInBounds_toArray, List.set_cons_zero, List.set_cons_succ, i64_w, i32_w]
        rfl
      refine take_ (i := 5) (N := some 35) (v := ?_) (a' := ?_) #[true, true, true, true, true, true, true, true, false, false] rfl rfl (take_ofW HT_.out HW_.out (by kernel_rfl)) (fun _ _ _ h => h) (Or.inl ⟨by rfl, ?_⟩) hHeld ?_ ?_
      rotate_left
      · rintro w' ⟨s0, s1, s2, s3, s4⟩
        go_simp
        with_reducible rfl
      rotate_left
      · simp only [Act.put, List.setIfInBounds_toArray, List.set_cons_zero, List.set_cons_succ, i64_w, i32_w]
        rfl
      refine one_ (i := 8) (N := some 38) #[true, true, true, true, true, true, true, true, true, false] rfl rfl (one_of HT_.out (by kernel_rfl)) (by decide) (fun K hK => ?_)
      refine goes_ Try.func94 (by kernel_rfl) rfl #[.agg #[.int .i64 m.f0, .int .i64 m.f1, .int .i64 m.f2], .int .i64 x1] (by rfl) rfl rfl (by (try simp only [List.map_toArray, List.map_cons, List.map_nil]); first | done | rfl) ?_
      refine (weigh_mark_times.calls m.f0 m.f1 m.f2 x1 t.f0 t.f1 t.f2 _ HTM.out).mono ?_
      rintro e W7 ⟨rfl, hb⟩
      refine ⟨_, rfl, ?_⟩
      have HO7 := Aside0.mk (HOd.out.below hb)
      have HG7 := Aside0.mk (World.grownBy.trans HGd.out (grown_of_below hb (some gM)))
      have cell_on : ∀ {p : Addr} {v : Value}, W.cell? p = some v → W7.cell? p = some v := fun h => (hb.cell (World.block_lt_of_cell? _ _ h)).trans h
      refine hK.out _ _ ⟨cell_on hHeld.1, cell_on hHeld.2.1, cell_on hHeld.2.2.1, cell_on hHeld.2.2.2.1, cell_on hHeld.2.2.2.2⟩ (fun hHeld => ?_)
      clear hK K hb HOd HGd
      refine norm_ (a' := ?_) ?_ ?_
      rotate_left
      · show Act.put _ (some 38) _ = _
        simp only [Act.put, List.setIfInBounds_toArray, List.set_cons_zero, List.set_cons_succ, i64_w, i32_w]
        rfl
      obtain ⟨W8, hrun, hO8, hG8⟩ := HO7.out.put HTO.out
      have hrun' : (Instr.mapUpdate 97 (.map (some gM)) (.agg #[.int .i64 t.f0, .int .i64 t.f1, .int .i64 t.f2]) (.bool true)).run Try.prog W7 = .ok () W8 := hrun
      refine one_ (i := 9) (N := none) #[true, true, true, true, true, true, true, true, true, true] rfl rfl (one_of HT_.out (by kernel_rfl)) (by decide) (fun K hK => ?_)
      refine skip_ (w1 := W8) (by rfl) rfl ?_ ?_
      · first | (go_simp; done) | (go_simp; rfl) | simp [execOp, hrun', Result.andThen]
      have nc : gc ≠ gM := by omega
      refine hK.out _ _ ⟨grown_cell hG8 hHeld.1 nc, grown_cell hG8 hHeld.2.1 nc, grown_cell hG8 hHeld.2.2.1 nl0, grown_cell hG8 hHeld.2.2.2.1 nl0, grown_cell hG8 hHeld.2.2.2.2 nl0⟩ (fun hHeld => ?_)
      clear hK K
      refine done_ (done_of HT_.out (by kernel_rfl)) ?_
      have HO8 := Aside0.mk hO8
      have HG8 := Aside0.mk (World.grownBy.trans HG7.out hG8)
      clear hO8 hG8 hrun hrun' HO7 HG7 hHeld
      go_wp2
      go_roundg (cs.length - (i + 1))
      case measure => omega
      case rel =>
        refine ⟨i + 1, by omega, by omega, by go_num, HG8, ⟨?_⟩⟩
        have h := HO8.out
        rw [Bi.out, foundL_snoc]
        rw [HT.out] at h
        exact h
    · have hilz : ¬ (i : Int) < (cs.length : Int) := by omega
      have hil' : cs.length ≤ i := by omega
      obtain ⟨es, clk, hes, hel⟩ := HO.out.len
      have hu97 : Try.prog.underlying 97 = some (.map (Try.prog.mapKeyOf 97) (Try.prog.mapElemOf 97)) := by kernel_rfl
      have hln := run_len_map (P := Try.prog) (w := wr) 97 3 gM es clk hu97 hes
      go_wp2
      go_ret2
      have e : ((foundL L (List.take i cs)).length : Int) = r1 := by rw [List.take_of_length_le hil']; exact H1.out
      refine ⟨?_, HB6.out.grown BR.out HB6.out.size (fun k hk => by injection hk with hk; omega)⟩
      rw [← e]
      rfl
end Go.Proofs.Ytdbeochifofdoaa.X
end

section
/-! How many answers there can be: the program's set, and the document's. -/
namespace Go.Proofs.Ytdbeochifofdoaa.X
open Go.RowKit Go.Proofs.YtdbeochifofdoaaW.PrintWords Go.Proofs.YtdbeochifofdoaaW.PrintLast
set_option linter.unusedVariables false
set_option linter.unusedSimpArgs false

/-- Put at the end if it is new. -/
def putL (ks : List (List Int)) (a : List Int) : List (List Int) := if a ∈ ks then ks else ks ++ [a]
theorem putL_len (ks : List (List Int)) (a : List Int) : (putL ks a).length ≤ ks.length + 1 := by unfold putL; split <;> simp
/-- The marks that are found, as the document has them. -/
def foundR (lots : Int) (l : List S53) : List (List Int) := (casesL lots).foldl (fun ks c => putL ks (ansB l c.f0 c.f1)) [ansB l 0 0]
theorem of3_inj {a b : List Int} (h3 : a.length ≤ 3) (he : a.length = b.length) (h : of3 a = of3 b) : a = b := by
  simp only [of3, S70.mk.injEq] at h
  match a, b, h3, he with
  | [], [], _, _ => rfl
  | [x], [y], _, _ => simpa using h
  | [x, x'], [y, y'], _, _ => simpa using h
  | [x, x', x''], [y, y', y''], _, _ => simpa using h
theorem of3_ans (l : List S53) (hl : l.length ≤ 3) (n : Nat) (w : Int) : of3 (ansB l n w) = tim3 (mk3 l n) w := by
  have h0 : wrap64 0 = 0 := wr_of (by omega) (by omega)
  match l, hl with
  | [], _ => simp [of3, tim3, mk3, refMark, ansB, h0]
  | [a], _ => simp [of3, tim3, mk3, refMark, ansB, h0, Int.mul_comm w]
  | [a, b], _ => simp [of3, tim3, mk3, refMark, ansB, h0, Int.mul_comm w]
  | [a, b, c], _ => simp [of3, tim3, mk3, refMark, ansB, h0, Int.mul_comm w]
theorem ans_zero (l : List S53) (n : Int) : ansB l n 0 = List.replicate l.length 0 := by
  rw [ans_map]
  have h : ∀ y : S53, wrap64 (0 * markOf n y) = 0 := fun y => by rw [Int.zero_mul, wr_of (by omega) (by omega)]
  simp only [h]
  exact List.map_const' ..
theorem of3_zero (l : List S53) (hl : l.length ≤ 3) : of3 (ansB l 0 0) = z70 := by
  rw [ans_zero]
  match l, hl with
  | [], _ => rfl
  | [a], _ => rfl
  | [a, b], _ => rfl
  | [a, b, c], _ => rfl
theorem putM_map (n : Nat) (h3 : n ≤ 3) (ks : List (List Int)) (hk : ∀ x, x ∈ ks → x.length = n) (a : List Int) (ha : a.length = n) : putM (ks.map of3) (of3 a) = (putL ks a).map of3 := by
  unfold putM putL
  by_cases h : a ∈ ks
  · rw [if_pos h, if_pos (List.mem_map.2 ⟨a, h, rfl⟩)]
  · rw [if_neg h, if_neg, List.map_append]
    · rfl
    · intro hm
      obtain ⟨x, hx, he⟩ := List.mem_map.1 hm
      have hx2 := hk x hx
      exact h (of3_inj (by omega) (by omega) he ▸ hx)
theorem putL_all (n : Nat) (ks : List (List Int)) (hk : ∀ x, x ∈ ks → x.length = n) (a : List Int) (ha : a.length = n) : ∀ x, x ∈ putL ks a → x.length = n := by
  intro x hx
  unfold putL at hx
  split at hx
  · exact hk x hx
  · rcases List.mem_append.1 hx with hx | hx
    · exact hk x hx
    · rw [List.mem_singleton.1 hx]; exact ha
theorem found_map {lots : Int} {l : List S53} (hp : pErr lots l = 0) : ∀ (cs : List S35) (ks : List (List Int)), (∀ c, c ∈ cs → 0 ≤ c.f0 ∧ c.f0.toNat < lots.toNat) → (∀ x, x ∈ ks → x.length = l.length) →
    cs.foldl (fun ks c => putM ks (tim3 ((marksL lots l).getD c.f0.toNat z70) c.f1)) (ks.map of3) = (cs.foldl (fun ks c => putL ks (ansB l c.f0 c.f1)) ks).map of3
  | [], _, _, _ => rfl
  | c :: cs, ks, hc, hk => by
    have few := (pErr_ok hp).few
    obtain ⟨h0, h1⟩ := hc c List.mem_cons_self
    obtain ⟨c0, c1⟩ := c
    dsimp only at h0 h1
    obtain ⟨n, rfl⟩ := Int.eq_ofNat_of_zero_le h0
    rw [Int.toNat_natCast] at h1
    simp only [List.foldl_cons, Int.toNat_natCast]
    rw [getD_marks hp n (by omega), ← of3_ans l few n c1, putM_map l.length few ks hk _ (ans_len l n c1)]
    exact found_map hp cs (putL ks (ansB l n c1)) (fun d hd => hc d (List.mem_cons_of_mem _ hd)) (putL_all l.length ks hk _ (ans_len l n c1))
theorem found_len {lots : Int} {l : List S53} (hp : pErr lots l = 0) : (foundL (marksL lots l) (casesL lots)).length = (foundR lots l).length := by
  have few := (pErr_ok hp).few
  have h := found_map hp (casesL lots) [ansB l 0 0] (fun c hc => casesL_mem hc) (by intro x hx; rw [List.mem_singleton.1 hx, ans_len])
  rw [List.map_cons, List.map_nil, of3_zero l few] at h
  unfold foundL foundR
  rw [h, List.length_map]
theorem Possible_f (lots : Int) (l : List S53) : weigh_Possible.f lots l = some (if pErr lots l = 0 then (((foundR lots l).length : Int), 0) else (0, pErr lots l)) := by
  unfold weigh_Possible.f
  by_cases hp : pErr lots l = 0
  · rw [if_pos hp, if_pos hp, found_len hp]
  · rw [if_neg hp, if_neg hp]
theorem cases_way {lots : Int} {c : S35} (h : c ∈ casesL lots) : c.f1 = 1 ∨ c.f1 = -1 := by
  unfold casesL at h
  rw [List.mem_flatMap] at h
  obtain ⟨n, hn, hc⟩ := h
  simp only [List.mem_cons, List.not_mem_nil, or_false] at hc
  rcases hc with rfl | rfl
  · exact .inr rfl
  · exact .inl rfl
end Go.Proofs.Ytdbeochifofdoaa.X
end

section
-- Written by a program of this session (wip/hook.py, which runs the kit's print.py with contracts proved by hand). Not trusted: Lean checks it.
namespace Go.Proofs.Ytdbeochifofdoaa.X
open Go.RowKit Go.Proofs.YtdbeochifofdoaaW.PrintWords Go.Proofs.YtdbeochifofdoaaW.PrintLast Go.Proofs.YtdbeochifofdoaaW.PrintMore
attribute [local go_sem] max2_int min2_int max_two min_two max_three min_three max_four min_four   -- for this text's walks alone
set_option linter.unusedVariables false
set_option linter.unusedSimpArgs false

/-! ### verditerref06_SameLists: function 53 -/
def verditerref06_SameLists.l0 : Nat → List (List Int) → List (List Int) → Int → Option (Bool)
  | 0, _, _, _ => none
  | k + 1, x0, x1, x5 => if x5 < (x0.length : Int) then (if 0 ≤ x5 then (if x5 < (x1.length : Int) then ((verditerref06_SameInts.f k (rd_L5 x0 x5) (rd_L5 x1 x5)).bind fun t155 => (if t155 = true then (verditerref06_SameLists.l0 k x0 x1 (wrap64 (x5 + 1))) else (some false))) else (none)) else (none)) else (some true)
def verditerref06_SameLists.f (k : Nat) (l0 : List (List Int)) (l1 : List (List Int)) : Option (Bool) := if (l0.length : Int) = (l1.length : Int) then (verditerref06_SameLists.l0 k l0 l1 0) else (some false)
theorem verditerref06_SameLists.mono_l : ∀ k, (∀ y0 y1 y2, LeO (verditerref06_SameLists.l0 k y0 y1 y2) (verditerref06_SameLists.l0 (k + 1) y0 y1 y2))
  | 0 => fun _ _ _ r h => by simp [verditerref06_SameLists.l0] at h
  | k + 1 => by
    have ih0 := verditerref06_SameLists.mono_l k
    · intro y0 y1 y2
      unfold verditerref06_SameLists.l0
      repeat' first
      | (with_reducible exact ih0 _ _ _)
      | (with_reducible exact verditerref06_SameInts.mono _ _ _)
      | (with_reducible exact LeO.refl _)
      | (with_reducible exact LeO.none _)
      | (with_reducible refine LeO.ite ?_ ?_)
      | (with_reducible refine LeO.bind ?_ (fun _ => ?_))
      | exact ih0 _ _ _
      | exact verditerref06_SameInts.mono _ _ _
      | exact LeO.none _
      | refine LeO.ite ?_ ?_
      | refine LeO.bind ?_ (fun _ => ?_)
theorem verditerref06_SameLists.mono : ∀ a0 a1 k, LeO (verditerref06_SameLists.f k a0 a1) (verditerref06_SameLists.f (k + 1) a0 a1) := by
  intro a0 a1 k
  have ih0 := verditerref06_SameLists.mono_l k
  unfold verditerref06_SameLists.f
  repeat' first
      | (with_reducible exact ih0 _ _ _)
      | (with_reducible exact verditerref06_SameInts.mono _ _ _)
      | (with_reducible exact LeO.refl _)
      | (with_reducible exact LeO.none _)
      | (with_reducible refine LeO.ite ?_ ?_)
      | (with_reducible refine LeO.bind ?_ (fun _ => ?_))
      | exact ih0 _ _ _
      | exact verditerref06_SameInts.mono _ _ _
      | exact LeO.none _
      | refine LeO.ite ?_ ?_
      | refine LeO.bind ?_ (fun _ => ?_)
set_option maxHeartbeats 8000000 in
set_option maxRecDepth 100000 in
theorem verditerref06_SameLists.calls (k : Nat) (A0 : Option Addr) (c0 : Nat) (l0 : List (List Int)) (A1 : Option Addr) (c1 : Nat) (l1 : List (List Int)) (r : Bool) (w : World) (hr0 : Kd.C (Kd.slice 3 (Kd.int .i64)) w A0 l0.length l0) (hc0 : l0.length ≤ c0) (hr1 : Kd.C (Kd.slice 3 (Kd.int .i64)) w A1 l1.length l1) (hc1 : l1.length ≤ c1) (h : verditerref06_SameLists.f k l0 l1 = some r) :
    Calls Try.prog 53 #[.slice A0 l0.length c0, .slice A1 l1.length c1] w fun e w' => e = .returned (.bool r) ∧ Drawn0 w w' := by
  have HR0 := Aside0.mk hr0
  have HC0 := Aside0.mk hc0
  clear hr0 hc0
  have HR1 := Aside0.mk hr1
  have HC1 := Aside0.mk hc1
  clear hr1 hc1
  have H : (if (l0.length : Int) = (l1.length : Int) then (verditerref06_SameLists.l0 k l0 l1 0) else (some false)) = some r := h
  clear h
  by_cases c3 : (l0.length : Int) = (l1.length : Int)
  · rw [if_pos c3] at H
    have c3b0 : ((l0.length : Int) == (l1.length : Int)) = true := beq_iff_eq.mpr c3
    have c3b1 : ((l0.length : Int) != (l1.length : Int)) = false := bne_eq_false_iff_eq.mpr c3
    have c3b2 : (l0.length == l1.length) = true := by first | simpa using c3 | (simp at c3 ⊢; omega)
    clear c3
    have H' := Aside0.mk H
    clear H
    go_enter Try.func53, Try.ntmps53
    go_wp2
    repeat (go_quiet (fail); try go_wp2)
    go_loopg [5] k (fun kq v5 w' => ∃ (x5_1 : Int), v5 = .int .i64 x5_1 ∧ Aside0 (verditerref06_SameLists.l0 kq l0 l1 x5_1 = some r) ∧ Aside0 (kq ≤ k) ∧ Drawn0 w w')
    case atStart => exact ⟨(0), (by first | rfl | (simp; done) | (simp [*]; done)), H', ⟨Nat.le_refl _⟩, by repeat (first | exact Drawn0.refl _ | apply Drawn0.step)⟩
    case round =>
      clear H'
      try clear c1
      try clear p2
      try clear c3
      try clear c3b0
      try clear c3b1
      try clear c3b2
      obtain ⟨x5_1, rfl, HA, HK1, ⟨m1, rfl⟩⟩ := hrel
      cases gk with
      | zero => exact absurd HA.out (by simp [verditerref06_SameLists.l0])
      | succ k1 =>
        have H := HA.out
        clear HA
        simp only [verditerref06_SameLists.l0] at H
        by_cases c4 : x5_1 < (l0.length : Int)
        · rw [if_pos c4] at H
          have c4b0 : decide (x5_1 < (l0.length : Int)) = true := decide_eq_true c4
          clear c4
          by_cases c5 : 0 ≤ x5_1
          · rw [if_pos c5] at H
            have c5b0 : decide (0 ≤ x5_1) = true := decide_eq_true c5
            clear c5
            by_cases c6 : x5_1 < (l1.length : Int)
            · rw [if_pos c6] at H
              have c6b0 : decide (x5_1 < (l1.length : Int)) = true := decide_eq_true c6
              clear c6
              replace H := Option.bind_eq_some_iff.mp H
              obtain ⟨t155, A70, H⟩ := H
              replace H : (if t155 = true then (verditerref06_SameLists.l0 k1 l0 l1 (wrap64 (x5_1 + 1))) else (some false)) = some r := H
              have A7 := Aside0.mk A70
              clear A70
              by_cases c8 : t155 = true
              · subst c8
                have H1 : (verditerref06_SameLists.l0 k1 l0 l1 (wrap64 (x5_1 + 1))) = some r := by rw [if_pos rfl] at H; exact H
                clear H
                have H := H1
                clear H1
                have H' := Aside0.mk H
                clear H
                have p153 : 0 ≤ (x5_1 : Int) := of_decide_eq_true (by first | (with_reducible assumption) | assumption)
                have q153 : x5_1 < (l0.length : Int) := of_decide_eq_true (by first | (with_reducible assumption) | assumption)
                obtain ⟨ad153, A153_0, c153_0, e153, hx153_0, hl153_0, hi153_0⟩ := at_L5 HR0.out x5_1 p153 q153
                cases e153
                have HR153_0 := Aside0.mk hi153_0
                have HC153_0 := Aside0.mk hl153_0
                clear hi153_0 hl153_0
                replace p153 := eq_true p153
                replace q153 := eq_true q153
                have p154 : 0 ≤ (x5_1 : Int) := of_decide_eq_true (by first | (with_reducible assumption) | assumption)
                have q154 : x5_1 < (l1.length : Int) := of_decide_eq_true (by first | (with_reducible assumption) | assumption)
                obtain ⟨ad154, A154_0, c154_0, e154, hx154_0, hl154_0, hi154_0⟩ := at_L5 HR1.out x5_1 p154 q154
                cases e154
                have HR154_0 := Aside0.mk hi154_0
                have HC154_0 := Aside0.mk hl154_0
                clear hi154_0 hl154_0
                replace p154 := eq_true p154
                replace q154 := eq_true q154
                go_wp2_with (first | (go_at_call 60; (with_reducible refine (verditerref06_SameInts.calls k1 _ _ (rd_L5 l0 x5_1) _ _ (rd_L5 l1 x5_1) true _ ?side1 ?side2 ?side3 ?side4 A7.out).mono ?_); (case side1 => repeat (first | exact HR153_0.out | (with_reducible refine Kd.C_alloc ?_ _) | (with_reducible refine Kd.C_drewN ?_ _) | (with_reducible refine Kd.C_drew ?_))); (case side2 => exact HC153_0.out); (case side3 => repeat (first | exact HR154_0.out | (with_reducible refine Kd.C_alloc ?_ _) | (with_reducible refine Kd.C_drewN ?_ _) | (with_reducible refine Kd.C_drew ?_))); (case side4 => exact HC154_0.out); rintro e w' ⟨rfl, ⟨nd, rfl⟩⟩; (try first | exact ⟨rfl, _, World.drewN_drewN _ _ _⟩ | exact ⟨rfl, _, Eq.trans (World.drewN_drewN _ _ _) (congrArg (World.drewN _) (Nat.add_assoc _ _ _))⟩)))
                repeat (go_quiet (first | (go_at_call 60; (with_reducible refine (verditerref06_SameInts.calls k1 _ _ (rd_L5 l0 x5_1) _ _ (rd_L5 l1 x5_1) true _ ?side1 ?side2 ?side3 ?side4 A7.out).mono ?_); (case side1 => repeat (first | exact HR153_0.out | (with_reducible refine Kd.C_alloc ?_ _) | (with_reducible refine Kd.C_drewN ?_ _) | (with_reducible refine Kd.C_drew ?_))); (case side2 => exact HC153_0.out); (case side3 => repeat (first | exact HR154_0.out | (with_reducible refine Kd.C_alloc ?_ _) | (with_reducible refine Kd.C_drewN ?_ _) | (with_reducible refine Kd.C_drew ?_))); (case side4 => exact HC154_0.out); rintro e w' ⟨rfl, ⟨nd, rfl⟩⟩; (try first | exact ⟨rfl, _, World.drewN_drewN _ _ _⟩ | exact ⟨rfl, _, Eq.trans (World.drewN_drewN _ _ _) (congrArg (World.drewN _) (Nat.add_assoc _ _ _))⟩))); try go_wp2_with (first | (go_at_call 60; (with_reducible refine (verditerref06_SameInts.calls k1 _ _ (rd_L5 l0 x5_1) _ _ (rd_L5 l1 x5_1) true _ ?side1 ?side2 ?side3 ?side4 A7.out).mono ?_); (case side1 => repeat (first | exact HR153_0.out | (with_reducible refine Kd.C_alloc ?_ _) | (with_reducible refine Kd.C_drewN ?_ _) | (with_reducible refine Kd.C_drew ?_))); (case side2 => exact HC153_0.out); (case side3 => repeat (first | exact HR154_0.out | (with_reducible refine Kd.C_alloc ?_ _) | (with_reducible refine Kd.C_drewN ?_ _) | (with_reducible refine Kd.C_drew ?_))); (case side4 => exact HC154_0.out); rintro e w' ⟨rfl, ⟨nd, rfl⟩⟩; (try first | exact ⟨rfl, _, World.drewN_drewN _ _ _⟩ | exact ⟨rfl, _, Eq.trans (World.drewN_drewN _ _ _) (congrArg (World.drewN _) (Nat.add_assoc _ _ _))⟩))))
                go_roundg k1
                case measure => have := HK1.out; omega
                case rel => exact ⟨(wrap64 (x5_1 + 1)), (by first | rfl | (simp; done) | (simp [*]; done)), H', ⟨by have := HK1.out; omega⟩, by repeat (first | exact Drawn0.refl _ | apply Drawn0.step)⟩
              · replace c8 := Bool.eq_false_iff.mpr c8
                subst c8
                have H1 : (some false) = some r := by rw [if_neg (show ¬ (false = true) by decide)] at H; exact H
                clear H
                have H := H1
                clear H1
                obtain rfl := Option.some.inj H
                have p153 : 0 ≤ (x5_1 : Int) := of_decide_eq_true (by first | (with_reducible assumption) | assumption)
                have q153 : x5_1 < (l0.length : Int) := of_decide_eq_true (by first | (with_reducible assumption) | assumption)
                obtain ⟨ad153, A153_0, c153_0, e153, hx153_0, hl153_0, hi153_0⟩ := at_L5 HR0.out x5_1 p153 q153
                cases e153
                have HR153_0 := Aside0.mk hi153_0
                have HC153_0 := Aside0.mk hl153_0
                clear hi153_0 hl153_0
                replace p153 := eq_true p153
                replace q153 := eq_true q153
                have p154 : 0 ≤ (x5_1 : Int) := of_decide_eq_true (by first | (with_reducible assumption) | assumption)
                have q154 : x5_1 < (l1.length : Int) := of_decide_eq_true (by first | (with_reducible assumption) | assumption)
                obtain ⟨ad154, A154_0, c154_0, e154, hx154_0, hl154_0, hi154_0⟩ := at_L5 HR1.out x5_1 p154 q154
                cases e154
                have HR154_0 := Aside0.mk hi154_0
                have HC154_0 := Aside0.mk hl154_0
                clear hi154_0 hl154_0
                replace p154 := eq_true p154
                replace q154 := eq_true q154
                go_wp2_with (first | (go_at_call 60; (with_reducible refine (verditerref06_SameInts.calls k1 _ _ (rd_L5 l0 x5_1) _ _ (rd_L5 l1 x5_1) false _ ?side1 ?side2 ?side3 ?side4 A7.out).mono ?_); (case side1 => repeat (first | exact HR153_0.out | (with_reducible refine Kd.C_alloc ?_ _) | (with_reducible refine Kd.C_drewN ?_ _) | (with_reducible refine Kd.C_drew ?_))); (case side2 => exact HC153_0.out); (case side3 => repeat (first | exact HR154_0.out | (with_reducible refine Kd.C_alloc ?_ _) | (with_reducible refine Kd.C_drewN ?_ _) | (with_reducible refine Kd.C_drew ?_))); (case side4 => exact HC154_0.out); rintro e w' ⟨rfl, ⟨nd, rfl⟩⟩; (try first | exact ⟨rfl, _, World.drewN_drewN _ _ _⟩ | exact ⟨rfl, _, Eq.trans (World.drewN_drewN _ _ _) (congrArg (World.drewN _) (Nat.add_assoc _ _ _))⟩)))
                repeat (go_quiet (first | (go_at_call 60; (with_reducible refine (verditerref06_SameInts.calls k1 _ _ (rd_L5 l0 x5_1) _ _ (rd_L5 l1 x5_1) false _ ?side1 ?side2 ?side3 ?side4 A7.out).mono ?_); (case side1 => repeat (first | exact HR153_0.out | (with_reducible refine Kd.C_alloc ?_ _) | (with_reducible refine Kd.C_drewN ?_ _) | (with_reducible refine Kd.C_drew ?_))); (case side2 => exact HC153_0.out); (case side3 => repeat (first | exact HR154_0.out | (with_reducible refine Kd.C_alloc ?_ _) | (with_reducible refine Kd.C_drewN ?_ _) | (with_reducible refine Kd.C_drew ?_))); (case side4 => exact HC154_0.out); rintro e w' ⟨rfl, ⟨nd, rfl⟩⟩; (try first | exact ⟨rfl, _, World.drewN_drewN _ _ _⟩ | exact ⟨rfl, _, Eq.trans (World.drewN_drewN _ _ _) (congrArg (World.drewN _) (Nat.add_assoc _ _ _))⟩))); try go_wp2_with (first | (go_at_call 60; (with_reducible refine (verditerref06_SameInts.calls k1 _ _ (rd_L5 l0 x5_1) _ _ (rd_L5 l1 x5_1) false _ ?side1 ?side2 ?side3 ?side4 A7.out).mono ?_); (case side1 => repeat (first | exact HR153_0.out | (with_reducible refine Kd.C_alloc ?_ _) | (with_reducible refine Kd.C_drewN ?_ _) | (with_reducible refine Kd.C_drew ?_))); (case side2 => exact HC153_0.out); (case side3 => repeat (first | exact HR154_0.out | (with_reducible refine Kd.C_alloc ?_ _) | (with_reducible refine Kd.C_drewN ?_ _) | (with_reducible refine Kd.C_drew ?_))); (case side4 => exact HC154_0.out); rintro e w' ⟨rfl, ⟨nd, rfl⟩⟩; (try first | exact ⟨rfl, _, World.drewN_drewN _ _ _⟩ | exact ⟨rfl, _, Eq.trans (World.drewN_drewN _ _ _) (congrArg (World.drewN _) (Nat.add_assoc _ _ _))⟩))))
                go_ret
                exact ⟨by first | rfl | (simp; done) | (simp [*]; done), by repeat (first | exact Drawn0.refl _ | apply Drawn0.step)⟩
            · rw [if_neg c6] at H
              exact absurd H (by simp)
          · rw [if_neg c5] at H
            exact absurd H (by simp)
        · rw [if_neg c4] at H
          have c4b0 : decide (x5_1 < (l0.length : Int)) = false := decide_eq_false c4
          clear c4
          obtain rfl := Option.some.inj H
          go_wp2
          repeat (go_quiet (fail); try go_wp2)
          go_ret
          exact ⟨by first | rfl | (simp; done) | (simp [*]; done), by repeat (first | exact Drawn0.refl _ | apply Drawn0.step)⟩
  · rw [if_neg c3] at H
    have c3b0 : ((l0.length : Int) == (l1.length : Int)) = false := beq_eq_false_iff_ne.mpr c3
    have c3b1 : ((l0.length : Int) != (l1.length : Int)) = true := bne_iff_ne.mpr c3
    have c3b2 : (l0.length == l1.length) = false := by first | simpa using c3 | (simp at c3 ⊢; omega)
    obtain rfl := Option.some.inj H
    go_enter Try.func53, Try.ntmps53
    go_wp2
    repeat (go_quiet (fail); try go_wp2)
    go_ret
    exact ⟨by first | rfl | (simp; done) | (simp [*]; done), by repeat (first | exact Drawn0.refl _ | apply Drawn0.step)⟩

end Go.Proofs.Ytdbeochifofdoaa.X
end
