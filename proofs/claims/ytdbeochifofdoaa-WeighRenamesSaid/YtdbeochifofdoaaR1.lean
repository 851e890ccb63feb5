/- Rename gives the lots other numbers, for all plans and lists, and the plan tells as well.
Its conditions: none beyond the statement's own. Part 2 of 5 of the proof. -/
import Derived.Handy
import Derived.WalkSpells
import Derived.Laws.CopyOwn
import Derived.Deep.RegionLaw
import Derived.ScopeJumps
import Derived.WalkMore
import Derived.Deep.RegionHeld3
import Derived.Test.YtdbeochifofdoaaRz0
import Derived.Test.YtdbeochifofdoaaR0
section
/-! slices.Repeat of one number, up to thirteen times. -/
namespace Go.Proofs.Ytdbeochifofdoaa.X
open Go.RowKit Go.Proofs.YtdbeochifofdoaaW.PrintWords Go.Proofs.YtdbeochifofdoaaW.PrintLast Go.Proofs.YtdbeochifofdoaaW.PrintMore
set_option linter.unusedVariables false
set_option linter.unusedSimpArgs false

theorem mul_f : ∀ n : Fin 14, bits_Mul.f 1 ((n.val : Nat) : Int) = some (0, ((n.val : Nat) : Int)) := by decide +kernel
/-- n cells, the first k of them filled with x. -/
def fillL (x : Int) (n k : Nat) : List Value := List.replicate k (.int .i64 x) ++ List.replicate (n - k) (.int .i64 0)
theorem fillL_len (x : Int) (n k : Nat) (h : k ≤ n) : (fillL x n k).length = n := by simp [fillL]; omega
theorem fillL_get (x : Int) (n k j : Nat) (h : j < k) : (fillL x n k)[j]? = some (.int .i64 x) := by
  simp [fillL, List.getElem?_append, h]
theorem fillL_splice (x : Int) (n k m : Nat) (h : k + m ≤ n) : splice (fillL x n k) k (List.replicate m (.int .i64 x)) = fillL x n (k + m) := by
  unfold splice fillL
  rw [List.take_left' (by simp), List.length_replicate, List.drop_append, List.drop_replicate, List.length_replicate, List.drop_replicate]
  rw [show k - (k + m) = 0 by omega, List.replicate_zero, List.nil_append, ← List.append_assoc, List.replicate_append_replicate]
  congr 2
  omega

set_option maxHeartbeats 8000000 in
set_option maxRecDepth 100000 in
theorem repeat_calls (n : Nat) (hn : n ≤ 13) (x : Int) (b c : Nat) (w : World) (hx : w.cell? ⟨b, 0, none⟩ = some (.int .i64 x)) :
    Calls Try.prog 87 #[.slice (some ⟨b, 0, none⟩) 1 c, .int .i64 n] w fun e w' => ∃ v : Value, e = .returned v ∧ Kd.R (Kd.int .i64) 92 w' w.heap.size (fun _ => True) v (List.replicate n x) ∧ Below w.heap.size w w' := by
  have HF := Aside0.mk (mul_f ⟨n, by omega⟩)
  have hmk : ∀ W : World, (Instr.makeSlice 90 (.int .i64 (n : Int)) (.int .i64 (n : Int))).run Try.prog W = .ok (.slice (some ⟨W.heap.size, 0, none⟩) n n) (W.alloc (.cells (fillL x n 0).toArray 92)) := by
    intro W
    obtain ⟨i0, hi, hz0, hz1, hz2⟩ := info_parts info92
    have h := run_make (P := Try.prog) W 90 92 i0 _ Try.underlying90 hi hz0 .i64 .i64 (n : Int) (n : Int) (by omega) (by omega) (by rw [hz2]; omega) (by omega)
    simp only [Int.toNat_natCast] at h
    rw [hz1] at h
    rw [h]
    congr 3
    apply Array.ext_getElem?
    intro i
    simp only [fillL, List.replicate_zero, List.nil_append, Nat.sub_zero, madeCells, Nat.mul_one]
    by_cases hi : i < n
    · simp [hi, Value.cells, Nat.mod_one]
    · simp [hi]
  go_enter Try.func87, Try.ntmps87
  go_wp2_with fail
  refine (bits_Mul.calls 1 n 0 n _ HF.out).mono ?_
  rintro e w' ⟨rfl, ⟨nd, rfl⟩⟩
  have hd1 : decide ((n : Int) < 0) = false := decide_eq_false (by omega)
  have hd2 : decide ((9223372036854775807 : Int) < n) = false := decide_eq_false (by omega)
  have hsp := fillL_splice x n 0 (min 1 n) (by omega)
  have hbw : b < w.heap.size := World.block_lt_of_cell? w _ hx
  have HSP := Aside0.mk hsp
  clear hsp
  go_wp2_with (with_reducible refine wpList_copy_splice rfl (.tmp 31) (.tmp 32) 90 90 rfl 92 Try.underlying90 (by kernel_rfl) (some ⟨w.heap.size, 0, none⟩) (some ⟨b, 0, none⟩) n n 1 c rfl rfl w.heap.size 0 (fillL x n 0) 92 ?cg (List.replicate (min 1 n) (.int .i64 x)) ?cn ?cp ?cf ?c1 w.heap.size w ?cb (Nat.le_refl _) ?_)
  case cg => exact blk_new _ _
  case cn => simp [Nat.min_def]
  case cp =>
    intro h j v hj
    obtain ⟨hjl, hjv⟩ := List.getElem?_eq_some_iff.1 hj
    rw [List.length_replicate] at hjl
    obtain rfl : j = 0 := by omega
    rw [List.getElem_replicate] at hjv
    subst hjv
    exact (World.cell?_alloc_lt _ _ _ hbw).trans hx
  case cf => rw [fillL_len _ _ _ (by omega)]; simp; omega
  case c1 => intro v hv; rw [List.eq_of_mem_replicate hv]; rfl
  case cb => exact (pw_below_drewN (Below.refl _ _) _).alloc (Nat.le_refl _) _
  intro w2 hh hb
  rw [HSP.out, Nat.zero_add] at hh
  have HH := Aside0.mk (show w2.heap[w.heap.size]? = some (.cells (fillL x n (min 1 n)).toArray 92 (0, 0)) from hh.out)
  have HB := Aside0.mk hb
  clear hh hb hmk
  have hk1 : min 1 n ≤ n := Nat.min_le_right _ _
  have hk2 : 0 < n → 0 < min 1 n := by omega
  generalize min 1 n = k0 at *
  go_wp2
  go_loopg [8] n (fun gg s wr => ∃ k : Nat, k ≤ n ∧ (0 < n → 0 < k) ∧ n - k ≤ gg ∧ s = .int .i64 k ∧ Aside0 (wr.heap[w.heap.size]? = some (.cells (fillL x n k).toArray 92 (0, 0))) ∧ Aside0 (Below w.heap.size w wr))
  case atStart => exact ⟨k0, hk1, hk2, by omega, rfl, HH, HB⟩
  case round =>
    clear HH HB
    obtain ⟨k, hk, hkp, hg, rfl, HH, HB⟩ := hrel
    by_cases hkn : k < n
    · have hknz : (k : Int) < (n : Int) := by omega
      go_wp2
      have hm0 : k + min k (n - k) ≤ n := by omega
      have HSP2 := Aside0.mk (fillL_splice x n k (min k (n - k)) hm0)
      have hmp : 0 < min k (n - k) := by have := hkp (by omega); omega
      have hcs : ∀ v ∈ (List.replicate (min k (n - k)) (Value.int .i64 x)), v.oneCell' = true := fun v hv => by rw [List.eq_of_mem_replicate hv]; rfl
      have hcn : (List.replicate (min k (n - k)) (Value.int .i64 x)).length = Nat.min k (n - k) := by simp [Nat.min_def]
      have hpos : ∀ W : World, W.heap[w.heap.size]? = some (.cells (fillL x n k).toArray 92 (0, 0)) → 0 < (List.replicate (min k (n - k)) (Value.int .i64 x)).length → (some (⟨w.heap.size, k, none⟩ : Addr) = some ⟨w.heap.size, k, none⟩) ∧ ∃ ad, (some (⟨w.heap.size, 0, none⟩ : Addr)) = some ad ∧ ∀ j v, (List.replicate (min k (n - k)) (Value.int .i64 x))[j]? = some v → W.cell? (ad.add j) = some v := by
        intro W hW _
        refine ⟨rfl, _, rfl, fun j v hj => ?_⟩
        obtain ⟨hjl, hjv⟩ := List.getElem?_eq_some_iff.1 hj
        rw [List.length_replicate] at hjl
        rw [List.getElem_replicate] at hjv
        subst hjv
        rw [add_plain, blk_cell hW]
        have := fillL_get x n k j (by omega)
        simpa using this
      have hfit : k + (List.replicate (min k (n - k)) (Value.int .i64 x)).length ≤ (fillL x n k).length := by rw [fillL_len _ _ _ (by omega)]; simp; omega
      have HCS := Aside0.mk hcs
      have HCN := Aside0.mk hcn
      have HPO := Aside0.mk hpos
      have HFI := Aside0.mk hfit
      clear hcs hcn hpos hfit
      have hnk : ¬ n = k := by omega
      go_region_law (refine step_copy_splice rfl (.tmp 41) (.tmp 44) 90 90 rfl 92 Try.underlying90 (by kernel_rfl) (some ⟨w.heap.size, k, none⟩) (some ⟨w.heap.size, 0, none⟩) (n - k) (n - k) k n (by simp [Act.eval, Act.put]) (by simp [Act.eval, Act.put]) w.heap.size k (fillL x n k) 92 HH.out (List.replicate (min k (n - k)) (.int .i64 x)) HCN.out (HPO.out _ HH.out) HFI.out HCS.out w.heap.size w HB.out.drew (Nat.le_refl _) ?_; intro w2 hh hb)
      rw [HSP2.out] at hh
      have HH2 := Aside0.mk (show w2.heap[w.heap.size]? = some (.cells (fillL x n (k + min k (n - k))).toArray 92 (0, 0)) from hh.out)
      have HB2 := Aside0.mk hb
      clear hh hb HSP2 HCS HCN HPO HFI
      generalize min k (n - k) = m0 at *
      have HM1 := Aside0.mk hmp
      go_wp2
      go_roundg (n - (k + 1))
      case measure => omega
      case rel => exact ⟨k + m0, hm0, fun _ => by have := HM1.out; omega, by have := HM1.out; omega, by rw [show IntKind.i64.wrap ((k : Int) + (m0 : Int)) = ((k + m0 : Nat) : Int) from by rw [IntKind.wrap_i64]; omega], HH2, HB2⟩
    · have hknz : ¬ (k : Int) < (n : Int) := by omega
      obtain rfl : k = n := by omega
      go_wp2
      go_ret
      refine ⟨_, rfl, ?_, HB.out⟩
      refine Kd.R_of_own (xs := List.replicate k x) ?_ (fun _ _ => trivial)
      have h := HH.out
      rw [show fillL x k k = encs (Value.int .i64) (List.replicate k x) from by simp [fillL, encs]] at h
      refine ⟨by simp [encs], .inr ⟨w.heap.size, k, _, by simp, Nat.le_refl _, h, by simp, by unfold maxLen; omega, by simp [encs], ?_⟩⟩
      exact List.take_of_length_le (by simp [encs])
end Go.Proofs.Ytdbeochifofdoaa.X
end

section
/-! weigh.search: a walk through all choices, with a goto. -/
namespace Go.Proofs.Ytdbeochifofdoaa.X
open Go.RowKit Go.Proofs.YtdbeochifofdoaaW.PrintWords Go.Proofs.YtdbeochifofdoaaW.PrintLast Go.Proofs.YtdbeochifofdoaaW.PrintMore
set_option linter.unusedVariables false
set_option linter.unusedSimpArgs false

/-- The least number of which Q holds. -/
noncomputable def muQ (Q : Nat → Prop) : Nat := @Classical.epsilon Nat ⟨0⟩ (fun n => Q n ∧ ∀ m, m < n → ¬ Q m)
theorem muQ_spec (Q : Nat → Prop) (h : ∃ n, Q n) : Q (muQ Q) ∧ ∀ m, m < muQ Q → ¬ Q m := by
  obtain ⟨n, hn⟩ := h
  have key : ∃ n, Q n ∧ ∀ m, m < n → ¬ Q m := by
    induction n using Nat.strongRecOn with
    | _ n ih =>
      by_cases h : ∃ m, m < n ∧ Q m
      · obtain ⟨m, hm, hq⟩ := h
        exact ih m hm hq
      · exact ⟨n, hn, fun m hm hq => h ⟨m, hm, hq⟩⟩
  exact Classical.epsilon_spec key
theorem jump_imp {l : Nat} {J J' : Act → World → Prop} {Q : Exit → Act → World → Prop} (h : ∀ a w, J a w → J' a w) : ∀ (e : Exit) (a : Act) (w : World), Exit.jump l J Q e a w → Exit.jump l J' Q e a w := fun e a w hq => by
  cases e <;> first | exact hq | exact ⟨hq.1, h _ _ hq.2⟩
/-- A scope with jumps back to one label: what holds there bears a number that every pass lowers. -/
theorem scope_ghost {P : Program} {a : Act} {w : World} {Q : Exit → Act → World → Prop} {c rest : Code} (l : Nat) (J : Nat → Act → World → Prop) (hf : findLabel c l = some (Code.skip.seq rest))
    (pass : ∀ n a w, J n a w → rest.wp P (Exit.jump l (fun a' w' => ∃ m, m < n ∧ J m a' w') Q) a w)
    (first : (∀ n a w, J n a w → rest.wp P (Exit.jump l (fun a' w' => ∃ m, J m a' w') Q) a w) → c.wp P (Exit.jump l (fun a' w' => ∃ m, J m a' w') Q) a w) : (Code.scope c).wp P Q a w := by
  refine wp_scope_jumps l (fun a w => ∃ n, J n a w) (fun a w => muQ fun n => J n a w) hf (first fun n a w h => Code.wp_mono (jump_imp fun a w ⟨m, _, hm⟩ => ⟨m, hm⟩) (pass n a w h)) fun a w h => ?_
  refine wp_seq (wp_skip ?_)
  refine Code.wp_mono (jump_imp fun a' w' ⟨m, hlt, hm⟩ => ⟨⟨m, hm⟩, ?_⟩) (pass _ a w (muQ_spec _ h).1)
  rcases Nat.lt_or_ge (muQ fun n => J n a' w') (muQ fun n => J n a w) with h1 | h1
  · exact h1
  · exact absurd hm ((muQ_spec _ ⟨m, hm⟩).2 m (Nat.lt_of_lt_of_le hlt h1))

section
variable (L : List S70) (lots : Int)
/-- The first choices, behind the choices p (the last one first), that go on to the end; r are still to come. -/
def dfs : Nat → List Int → Option (List Int)
  | 0, p => some p
  | r + 1, p => (if possibleB L (0 :: p).reverse lots = true then dfs r (0 :: p) else none).or
      ((if possibleB L (1 :: p).reverse lots = true then dfs r (1 :: p) else none).or (if possibleB L (2 :: p).reverse lots = true then dfs r (2 :: p) else none))
def st (r : Nat) (p : List Int) (d : Int) : Option (List Int) := if possibleB L (d :: p).reverse lots = true then dfs L lots r (d :: p) else none
/-- What is still to come where v was the last choice tried behind p. -/
def restv (r : Nat) (p : List Int) (v : Int) : Option (List Int) :=
  if v = -1 then (st L lots r p 0).or ((st L lots r p 1).or (st L lots r p 2)) else if v = 0 then (st L lots r p 1).or (st L lots r p 2) else if v = 1 then st L lots r p 2 else none
def backv : Nat → List Int → Option (List Int)
  | _, [] => none
  | r, u :: q => (restv L lots (r + 1) q u).or (backv (r + 1) q)
end
def passT : Nat → Nat
  | 0 => 0
  | r + 1 => 3 * (1 + passT r) + 1
def measB : Nat → List Int → Nat
  | _, [] => 0
  | r, u :: q => (2 - u).toNat * (1 + passT (r + 1)) + 1 + measB (r + 1) q
def measP (r : Nat) (p : List Int) (v : Int) : Nat := (2 - v).toNat * (1 + passT r) + 1 + measB r p

theorem classC_len (w : Nat) (h : w ≤ 3) : (classC w).length ≤ 13 := by
  have h27 : (fullC w).length ≤ 27 := by rw [fullC_len]; exact Nat.le_trans (Nat.pow_le_pow_right (by omega) h) (by decide)
  simp [classC]; omega

/-- The answer of the search. -/
def searchA (lots : Int) (w : Nat) : Option (List Int) := if (classC w).length = 0 then none else dfs (classC w) lots (classC w).length []
def searchR (lots : Int) (w : Nat) : List S70 × Bool := match searchA lots w with | some p => (chosenL (classC w) p.reverse, true) | none => ([], false)
def weigh_search.f (a0 a1 : Int) : Option (List S70 × Bool) := if (1 ≤ a0 ∧ a0 ≤ 13) ∧ 0 ≤ a1 ∧ a1 ≤ 3 then some (searchR a0 a1.toNat) else none

/-- Where the search stands at its label: a number that every pass lowers, the place, the choices in memory. -/
def stOk (L : List S70) (lots : Int) (A : Option (List Int)) (m : Nat) (k : Int) (cs : List Int) : Prop :=
  (k = -1 ∧ A = none) ∨ ∃ (p : List Int) (v : Int), k = p.length ∧ p.length < L.length ∧ -1 ≤ v ∧ v ≤ 2 ∧ (∀ u, u ∈ p → 0 ≤ u ∧ u ≤ 2) ∧ cs = p.reverse ++ v :: List.replicate (L.length - p.length - 1) (-1) ∧
    (restv L lots (L.length - p.length - 1) p v).or (backv L lots (L.length - p.length - 1) p) = A ∧ m = measP (L.length - p.length - 1) p v

theorem cs_get (p : List Int) (v : Int) (l : List Int) : (p.reverse ++ v :: l).getD p.length 0 = v := by simp [List.getD_eq_getElem?_getD]
theorem cs_set (p : List Int) (v d : Int) (l : List Int) : (p.reverse ++ v :: l).set p.length d = p.reverse ++ d :: l := by
  rw [List.set_append_right _ _ (by simp)]
  simp
theorem cs_take (p : List Int) (v : Int) (l : List Int) : (p.reverse ++ v :: l).take (p.length + 1) = (v :: p).reverse := by
  rw [List.take_append, List.take_of_length_le (by simp)]
  simp
theorem or_assoc3 {α : Type} (a b c : Option α) : (a.or b).or c = a.or (b.or c) := by cases a <;> simp
theorem restv_step (L : List S70) (lots : Int) (r : Nat) (p : List Int) (v : Int) (h0 : -1 ≤ v) (h1 : v < 2) : restv L lots r p v = (st L lots r p (v + 1)).or (restv L lots r p (v + 1)) := by
  rcases (show v = -1 ∨ v = 0 ∨ v = 1 by omega) with rfl | rfl | rfl <;> simp [restv]
theorem restv_two (L : List S70) (lots : Int) (r : Nat) (p : List Int) : restv L lots r p 2 = none := by simp [restv]
theorem dfs_succ (L : List S70) (lots : Int) (r : Nat) (p : List Int) : dfs L lots (r + 1) p = restv L lots r p (-1) := rfl
theorem measP_step (r : Nat) (p : List Int) (v : Int) (h0 : -1 ≤ v) (h1 : v < 2) : measP r p (v + 1) < measP r p v := by
  unfold measP
  rcases (show v = -1 ∨ v = 0 ∨ v = 1 by omega) with rfl | rfl | rfl <;> simp <;> omega
theorem measP_down (r : Nat) (p : List Int) (v : Int) (h0 : -1 ≤ v) (h1 : v < 2) : measP r ((v + 1) :: p) (-1) < measP (r + 1) p v := by
  show (2 - (-1 : Int)).toNat * (1 + passT r) + 1 + ((2 - (v + 1)).toNat * (1 + passT (r + 1)) + 1 + measB (r + 1) p) < (2 - v).toNat * (1 + passT (r + 1)) + 1 + measB (r + 1) p
  rcases (show v = -1 ∨ v = 0 ∨ v = 1 by omega) with rfl | rfl | rfl <;> simp [passT] <;> omega
theorem measP_up (r : Nat) (q : List Int) (u v : Int) : measP (r + 1) q u < measP r (u :: q) v := by
  unfold measP
  rw [measB]
  omega

set_option maxHeartbeats 16000000 in
set_option maxRecDepth 100000 in
theorem weigh_search.calls (a0 a1 : Int) (r1 : List S70) (r2 : Bool) (w : World) (h : weigh_search.f a0 a1 = some (r1, r2)) :
    Calls Try.prog 50 #[.int .i64 a0, .int .i64 a1] w fun e w' => ∃ v0_ : Value, e = .returned (.tuple #[v0_, .bool r2]) ∧ Kd.R k70 70 w' w.heap.size (fun _ => True) v0_ r1 ∧ Below w.heap.size w w' := by
  unfold weigh_search.f at h
  by_cases hp : (1 ≤ a0 ∧ a0 ≤ 13) ∧ 0 ≤ a1 ∧ a1 ≤ 3
  rotate_left
  · rw [if_neg hp] at h; cases h
  rw [if_pos hp] at h
  obtain ⟨ws, rfl⟩ := Int.eq_ofNat_of_zero_le hp.2.1
  have hws : ws ≤ 3 := by omega
  have hlo := hp.1.1
  have hhi := hp.1.2
  simp only [Int.toNat_natCast] at h
  have HQ := Aside0.mk (Option.some.inj h)
  have hLn := classC_len ws hws
  clear h hp
  go_enter Try.func50, Try.ntmps50
  go_wp2
  refine scope_ghost 0 (fun m a wr => ∃ (w1 : World) (A : Option Addr) (cc g cap : Nat) (k : Int) (cs : List Int) (u15 u16 u17 u18 u19 u20 u21 u22 u23 u24 u25 u26 u27 u28 u29 u30 u31 u32 u33 u34 u35 u36 u37 u38 u39 u40 u41 u42 u43 u44 u45 u46 u47 u48 u49 u50 u51 u52 u53 u54 u55 : Value), a = { tmps := #[.int .i64 a0, .int .i64 ws, undef, undef, .slice none 0 0, .bool false, .slice A (classC ws).length cc, .slice (some ⟨g, 0, none⟩) (classC ws).length cap, .int .i64 k, .int .i64 ws, .slice A (classC ws).length cc, .slice (some ⟨w1.heap.size, 0, none⟩) 1 1, .slice A (classC ws).length cc, .int .i64 (classC ws).length, .slice (some ⟨g, 0, none⟩) (classC ws).length cap, u15, u16, u17, u18, u19, u20, u21, u22, u23, u24, u25, u26, u27, u28, u29, u30, u31, u32, u33, u34, u35, u36, u37, u38, u39, u40, u41, u42, u43, u44, u45, u46, u47, u48, u49, u50, u51, u52, u53, u54, u55], defers := [] } ∧
      Aside0 ((classC ws).length ≠ 0) ∧ Aside0 ((classC ws).length ≤ cc) ∧ Aside0 (Kd.C k70 w1 A (classC ws).length (classC ws)) ∧ Aside0 (Below w.heap.size w w1) ∧ Aside0 (Below w1.heap.size w1 wr) ∧ Aside0 ((Kd.int .i64).R 92 wr w1.heap.size (fun _ => True) (.slice (some ⟨g, 0, none⟩) (classC ws).length cap) cs) ∧ Aside0 (stOk (classC ws) a0 (searchA a0 ws) m k cs)) rfl ?_ ?_
  · generalize hL : classC ws = L at *
    rintro m a wr ⟨w1, A, cc, g, cap, k, cs, u15, u16, u17, u18, u19, u20, u21, u22, u23, u24, u25, u26, u27, u28, u29, u30, u31, u32, u33, u34, u35, u36, u37, u38, u39, u40, u41, u42, u43, u44, u45, u46, u47, u48, u49, u50, u51, u52, u53, u54, u55, rfl, hne, HCC, HC, HB1, HBR, HR, HS⟩
    rcases HS.out with ⟨hk, hA⟩ | ⟨p, v, hk, hpn, hv0, hv2, hdig, hcs, hS, hm⟩
    · subst hk
      have hfin : (([] : List S70), false) = (r1, r2) := by rw [← HQ.out, searchR, hA]
      simp only [Prod.mk.injEq] at hfin
      obtain ⟨rfl, rfl⟩ := hfin
      clear HS hA hL
      go_wp2
      simp only [Exit.jump]
      go_ret2
      exact ⟨_, rfl, Kd.R_nil _ _ _ _ _, HB1.out.trans (HBR.out.mono HB1.out.size)⟩
    subst hk
    have hn0 : ((L.length : Int) == 0) = false := by have := hne.out; simpa using this
    have hcell := Kd.R_celln (0 : Int) HR.out (p.length : Int) (by omega) (by omega)
    rw [show rdOf (0 : Int) cs (p.length : Int) = cs.getD p.length 0 from rfl, hcs, cs_get] at hcell
    obtain ⟨hcv, hcf⟩ := hcell
    simp only [Int.toNat_natCast] at hcv hcf
    have hput := Kd.R_putn HR.out (p.length : Int) (v + 1)
    simp only [Int.toNat_natCast] at hput
    rw [hcs, cs_set] at hput
    have hbase := Kd.R_base HR.out g rfl
    have hB2 := below_set (j := p.length) (v := .int .i64 (v + 1)) HBR.out hbase
    have HPUT := Aside0.mk hput
    have HDG := Aside0.mk hdig
    have hncap : L.length ≤ cap := (Kd.R_reads' HR.out).2.1
    have HB2 := Aside0.mk hB2
    have HSS := Aside0.mk hS
    have HM := Aside0.mk hm
    have HBS := Aside0.mk hbase
    clear HS hS hm hput hB2 hbase hcs HR HBR hdig
    by_cases hv : v = 2
    · subst hv
      have hp3 : (Kd.int .i64).R 92 (wr.setCell ⟨g, p.length, none⟩ (.int .i64 3)) w1.heap.size (fun _ => True) (.slice (some ⟨g, 0, none⟩) L.length cap) (p.reverse ++ 3 :: List.replicate (L.length - p.length - 1) (-1)) := HPUT.out
      have hp4 := Kd.R_putn hp3 (p.length : Int) (-1)
      simp only [Int.toNat_natCast] at hp4
      rw [cs_set] at hp4
      have HP4 := Aside0.mk hp4
      have HB4 := Aside0.mk (below_set (j := p.length) (v := .int .i64 (-1)) HB2.out HBS.out)
      clear hp3 hp4
      go_wp2
      go_step3
      cases p with
      | nil =>
        refine ⟨rfl, 0, by rw [HM.out]; simp [measP, measB], w1, A, cc, g, cap, _, _, _, _, _, _, _, _, _, _, _, _, _, _, _, _, _, _, _, _, _, _, _, _, _, _, _, _, _, _, _, _, _, _, _, _, _, _, _, _, _, _, _, rfl, hne, HCC, HC, HB1, HB4, HP4, ⟨.inl ⟨by simp, ?_⟩⟩⟩
        rw [← HSS.out, restv_two]
        rfl
      | cons u q =>
        have hu := HDG.out u List.mem_cons_self
        have hql : (u :: q).length = q.length + 1 := rfl
        have hr1 : L.length - q.length - 1 = (L.length - (u :: q).length - 1) + 1 := by omega
        refine ⟨rfl, measP (L.length - q.length - 1) q u, by rw [HM.out, hr1]; exact measP_up _ q u 2, w1, A, cc, g, cap, _, _, _, _, _, _, _, _, _, _, _, _, _, _, _, _, _, _, _, _, _, _, _, _, _, _, _, _, _, _, _, _, _, _, _, _, _, _, _, _, _, _, _, rfl, hne, HCC, HC, HB1, HB4, HP4, ⟨.inr ⟨q, u, by rw [hql]; omega, by omega, by omega, hu.2, fun x hx => HDG.out x (List.mem_cons_of_mem _ hx), ?_, ?_, rfl⟩⟩⟩
        · rw [hr1, List.replicate_succ]
          simp
        · rw [← HSS.out, restv_two, hr1]
          rfl
    · have hv1 : v < 2 := by omega
      have hd3 : (v + 1 == 3) = false := by simp; omega
      have htk := Kd.R_take HPUT.out (m := p.length + 1) (by simp)
      rw [cs_take] at htk
      have hlr : ((v + 1) :: p).reverse.length = p.length + 1 := by simp
      have hCt := (Kd.R_reads' htk).2.2
      have hcall := possible_calls A cc L (some ⟨g, 0, none⟩) cap ((v + 1) :: p).reverse a0 _ (Kd.C_below HC.out HB2.out) HCC.out hCt (by rw [hlr]; omega) (by rw [hlr]; omega) hLn (by omega) hhi
      rw [hlr] at hcall
      have HCALL := Aside0.mk hcall
      clear htk hlr hCt hcall
      have hk1 : (p.length : Int) + 1 ≤ cap := by omega
      go_wp2_with fail
      refine HCALL.out.mono ?_
      rintro e w' ⟨rfl, hb⟩
      have HBn := Aside0.mk (HB2.out.trans (hb.mono HB2.out.size))
      have HRn := Aside0.mk (Kd.R_below HPUT.out hb)
      clear hb HCALL HPUT
      cases hpo : possibleB L ((v + 1) :: p).reverse a0 with
      | false =>
        have HPO := Aside0.mk hpo
        clear hpo
        go_wp2
        go_step3
        refine ⟨rfl, measP (L.length - p.length - 1) p (v + 1), by rw [HM.out]; exact measP_step _ p v hv0 hv1, w1, A, cc, g, cap, _, _, _, _, _, _, _, _, _, _, _, _, _, _, _, _, _, _, _, _, _, _, _, _, _, _, _, _, _, _, _, _, _, _, _, _, _, _, _, _, _, _, _, rfl, hne, HCC, HC, HB1, HBn, HRn, ⟨.inr ⟨p, v + 1, rfl, hpn, by omega, by omega, HDG.out, rfl, ?_, rfl⟩⟩⟩
        rw [← HSS.out, restv_step L a0 _ p v hv0 hv1, st, if_neg (by rw [HPO.out]; simp)]
        rfl
      | true =>
        have HPO := Aside0.mk hpo
        clear hpo
        by_cases hlast : p.length + 1 = L.length
        · have hq : ((p.length : Int) == (L.length : Int) - 1) = true := by simp; omega
          have hr0 : L.length - p.length - 1 = 0 := by omega
          have hAns : searchA a0 ws = some ((v + 1) :: p) := by
            rw [← HSS.out, hr0, restv_step L a0 _ p v hv0 hv1, st, if_pos HPO.out]
            rfl
          have hfin : (chosenL L ((v + 1) :: p).reverse, true) = (r1, r2) := by rw [← HQ.out, searchR, hAns, hL]
          simp only [Prod.mk.injEq] at hfin
          obtain ⟨rfl, rfl⟩ := hfin
          have hcl : p.reverse ++ (v + 1) :: List.replicate (L.length - p.length - 1) (-1) = ((v + 1) :: p).reverse := by rw [hr0]; simp
          rw [hcl] at HRn
          have hlr : ((v + 1) :: p).reverse.length = L.length := by simp; omega
          have hCt := (Kd.R_reads' HRn.out).2.2
          have hch := weigh_chosen.calls _ A cc L (some ⟨g, 0, none⟩) cap ((v + 1) :: p).reverse (chosenL L ((v + 1) :: p).reverse) w' (Kd.C_below HC.out HBn.out) HCC.out hCt (by rw [hlr]; exact hncap) (chosen_f L _ (by rw [hlr]; exact Nat.le_refl _) (by omega))
          rw [hlr] at hch
          have HCH := Aside0.mk hch
          clear hch hCt hlr hcl hAns
          go_wp2_with fail
          refine HCH.out.mono ?_
          rintro e w3 ⟨vc, rfl, hR3, hb3⟩
          have HR3 := Aside0.mk (Kd.R_lower hR3 (Nat.le_trans HB1.out.size HBn.out.size))
          have HB3 := Aside0.mk ((HB1.out.trans (HBn.out.mono HB1.out.size)).trans (hb3.mono (Nat.le_trans HB1.out.size HBn.out.size)))
          clear hR3 hb3 HCH
          go_wp2
          simp only [Exit.jump]
          go_ret2
          exact ⟨_, rfl, HR3.out, HB3.out⟩
        · have hq : ((p.length : Int) == (L.length : Int) - 1) = false := by simp; omega
          have hql : ((v + 1) :: p).length = p.length + 1 := rfl
          have hr1 : L.length - p.length - 1 = (L.length - ((v + 1) :: p).length - 1) + 1 := by omega
          go_wp2
          go_step3
          refine ⟨rfl, measP (L.length - ((v + 1) :: p).length - 1) ((v + 1) :: p) (-1), by rw [HM.out, hr1]; exact measP_down _ p v hv0 hv1, w1, A, cc, g, cap, _, _, _, _, _, _, _, _, _, _, _, _, _, _, _, _, _, _, _, _, _, _, _, _, _, _, _, _, _, _, _, _, _, _, _, _, _, _, _, _, _, _, _, rfl, hne, HCC, HC, HB1, HBn, HRn, ⟨.inr ⟨(v + 1) :: p, -1, by rw [hql]; omega, by omega, by omega, by omega, fun x hx => ?_, ?_, ?_, rfl⟩⟩⟩
          · rcases List.mem_cons.1 hx with rfl | hx
            · omega
            · exact HDG.out x hx
          · rw [hr1, List.replicate_succ]
            simp
          · have h := HSS.out
            rw [hr1, restv_step L a0 _ p v hv0 hv1, st, if_pos HPO.out, or_assoc3, dfs_succ] at h
            exact h
  · intro hpass
    have HPASS := Aside0.mk hpass
    clear hpass
    go_wp2_with fail
    refine (classes_calls ws hws _).mono ?_
    rintro e w1 ⟨A, cc, rfl, hcc, hC, hb⟩
    have HC := Aside0.mk hC
    have HB := Aside0.mk hb
    have HCC := Aside0.mk hcc
    clear hC hb hcc
    go_wp2_with fail
    refine (repeat_calls (classC ws).length hLn (-1) w1.heap.size 1 _ ?hx).mono ?_
    case hx => exact blk_cell (blk_new w1 _) 0
    rintro e w2 ⟨v, rfl, hR, hb⟩
    rw [show (w1.alloc (.cells #[.int .i64 (-1)] 92)).heap.size = w1.heap.size + 1 from by simp] at hR hb
    have HR := Aside0.mk (Kd.R_lower hR (Nat.le_succ _))
    have HB2 := Aside0.mk ((below_alloc (Below.refl _ w1) (.cells #[.int .i64 (-1)] 92)).trans (hb.mono (Nat.le_succ _)))
    clear hR hb
    go_wp2_with fail
    by_cases hn : (classC ws).length = 0
    · have hfin : (([] : List S70), false) = (r1, r2) := by rw [← HQ.out, searchR, searchA, if_pos hn]
      simp only [Prod.mk.injEq] at hfin
      obtain ⟨rfl, rfl⟩ := hfin
      obtain ⟨Av, cv, rfl⟩ := Kd.R_slice HR.out
      have hn0 : (((classC ws).length : Int) == 0) = true := by simp [hn]
      clear HPASS
      go_step3
      go_wp2
      simp only [Exit.jump]
      go_ret2
      exact ⟨_, rfl, Kd.R_nil _ _ _ _ _, HB.out.trans (HB2.out.mono HB.out.size)⟩
    · obtain ⟨g, cap, hv, hg1, hg2, hg3⟩ := Kd.R_form HR.out (by simp; omega)
      rw [List.length_replicate] at hv
      subst hv
      clear hg1 hg2 hg3
      go_step3
      rename_i K0 hK0
      refine hK0 _ _ (HPASS.out (measP ((classC ws).length - 1) [] (-1)) _ _ ⟨w1, A, cc, g, cap, 0, List.replicate (classC ws).length (-1), _, _, _, _, _, _, _, _, _, _, _, _, _, _, _, _, _, _, _, _, _, _, _, _, _, _, _, _, _, _, _, _, _, _, _, _, _, _, _, _, _, rfl, ⟨hn⟩, HCC, HC, HB, HB2, HR, ⟨.inr ⟨[], -1, rfl, by simp; omega, by omega, by omega, (fun u hu => by cases hu), ?_, ?_, rfl⟩⟩⟩)
      · simp
        rw [← List.replicate_succ]
        congr 1
        omega
      · rw [searchA, if_neg hn]
        obtain ⟨n, hn1⟩ : ∃ n, (classC ws).length = n + 1 := ⟨(classC ws).length - 1, by omega⟩
        rw [hn1]
        simp only [List.length_nil, Nat.sub_zero, Nat.add_sub_cancel, backv, dfs_succ]
        simp
end Go.Proofs.Ytdbeochifofdoaa.X
end

section
-- Written by a program of this session (wip/hook.py, which runs the kit's print.py with contracts proved by hand). Not trusted: Lean checks it.
namespace Go.Proofs.Ytdbeochifofdoaa.X
open Go.RowKit Go.Proofs.YtdbeochifofdoaaW.PrintWords Go.Proofs.YtdbeochifofdoaaW.PrintLast Go.Proofs.YtdbeochifofdoaaW.PrintMore
attribute [local go_sem] max2_int min2_int max_two min_two max_three min_three max_four min_four   -- for this text's walks alone
set_option linter.unusedVariables false
set_option linter.unusedSimpArgs false

/-! ### weigh_Most: function 23 -/
def weigh_Most.l0 : Nat → Int → Int → Option (Int × Int)
  | 0, _, _ => none
  | k + 1, x0, x5 => if x5 > 0 then ((weigh_search.f x5 x0).bind fun bt121 => (if bt121.2 = true then (some (x5, 0)) else (weigh_Most.l0 k x0 (wrap64 (x5 - 1))))) else (some (0, 0))
def weigh_Most.f (k : Nat) (a0 : Int) : Option (Int × Int) := (weigh_counted.f 1 a0).bind fun t120 => (if t120 = 0 then (weigh_Most.l0 k a0 13) else (some (0, t120)))
theorem weigh_Most.mono_l : ∀ k, (∀ y0 y1, LeO (weigh_Most.l0 k y0 y1) (weigh_Most.l0 (k + 1) y0 y1))
  | 0 => fun _ _ r h => by simp [weigh_Most.l0] at h
  | k + 1 => by
    have ih0 := weigh_Most.mono_l k
    · intro y0 y1
      unfold weigh_Most.l0
      repeat' first
      | (with_reducible exact ih0 _ _)
      | (with_reducible exact LeO.refl _)
      | (with_reducible exact LeO.none _)
      | (with_reducible refine LeO.ite ?_ ?_)
      | (with_reducible refine LeO.bind ?_ (fun _ => ?_))
      | exact ih0 _ _
      | exact LeO.none _
      | refine LeO.ite ?_ ?_
      | refine LeO.bind ?_ (fun _ => ?_)
theorem weigh_Most.mono : ∀ a0 k, LeO (weigh_Most.f k a0) (weigh_Most.f (k + 1) a0) := by
  intro a0 k
  have ih0 := weigh_Most.mono_l k
  unfold weigh_Most.f
  repeat' first
      | (with_reducible exact ih0 _ _)
      | (with_reducible exact LeO.refl _)
      | (with_reducible exact LeO.none _)
      | (with_reducible refine LeO.ite ?_ ?_)
      | (with_reducible refine LeO.bind ?_ (fun _ => ?_))
      | exact ih0 _ _
      | exact LeO.none _
      | refine LeO.ite ?_ ?_
      | refine LeO.bind ?_ (fun _ => ?_)
set_option maxHeartbeats 8000000 in
set_option maxRecDepth 100000 in
theorem weigh_Most.calls (k : Nat) (a0 : Int) (r1 : Int) (r2 : Int) (w : World) (h : weigh_Most.f k a0 = some (r1, r2)) :
    Calls Try.prog 23 #[.int .i64 a0] w fun e w' => e = .returned (.tuple #[.int .i64 r1, .int .i64 r2]) ∧ Below w.heap.size w w' := by
  have HB := Aside0.mk (Below.refl w.heap.size w)
  have H : ((weigh_counted.f 1 a0).bind fun t120 => (if t120 = 0 then (weigh_Most.l0 k a0 13) else (some (0, t120)))) = some (r1, r2) := h
  clear h
  replace H := Option.bind_eq_some_iff.mp H
  obtain ⟨t120, A20, H⟩ := H
  replace H : (if t120 = 0 then (weigh_Most.l0 k a0 13) else (some (0, t120))) = some (r1, r2) := H
  have A2 := Aside0.mk A20
  clear A20
  by_cases c3 : t120 = 0
  · rw [if_pos c3] at H
    have c3b0 : (t120 == 0) = true := beq_iff_eq.mpr c3
    have c3b1 : (t120 != 0) = false := bne_eq_false_iff_eq.mpr c3
    clear c3
    have H' := Aside0.mk H
    clear H
    go_enter Try.func23, Try.ntmps23
    go_wp2_with (first | ((with_reducible refine gate_callee (f := 49) rfl ?_); refine goesL_ (some 9) rfl rfl Try.func49 (by kernel_rfl) rfl #[.int .i64 1, .int .i64 a0] rfl (by (try simp only [List.map_toArray, List.map_cons, List.map_nil]); first | done | rfl | (simp only [List.length_drop, List.length_take]; rfl)) ?_; (with_reducible refine (weigh_counted.calls 1 a0 t120 _ A2.out).mono ?_); rintro e w' ⟨rfl, ⟨nd, rfl⟩⟩; refine ⟨_, rfl, ?_⟩))
    go_loopg [5] k (fun kq v5 w' => ∃ (x5_1 : Int), v5 = .int .i64 x5_1 ∧ Aside0 (weigh_Most.l0 kq a0 x5_1 = some (r1, r2)) ∧ Aside0 (kq ≤ k) ∧ Aside0 (Below w.heap.size w w'))
    case atStart => exact ⟨(13), (by first | rfl | (simp; done) | (simp [*]; done)), H', ⟨Nat.le_refl _⟩, ⟨by repeat (first | (with_reducible first | exact HB.out | apply below_alloc | apply pw_below_drewN | apply below_drew1) | exact HB.out)⟩⟩
    case round =>
      clear H'
      try clear c2
      try clear p2
      try clear c3
      try clear c3b0
      try clear c3b1
      obtain ⟨x5_1, rfl, HA, HK1, HB⟩ := hrel
      cases gk with
      | zero => exact absurd HA.out (by simp [weigh_Most.l0])
      | succ k1 =>
        have H := HA.out
        clear HA
        simp only [weigh_Most.l0] at H
        by_cases c4 : x5_1 > 0
        · rw [if_pos c4] at H
          have c4b0 : decide (0 < x5_1) = true := decide_eq_true c4
          clear c4
          replace H := Option.bind_eq_some_iff.mp H
          obtain ⟨⟨t121, t122⟩, A50, H⟩ := H
          replace H : (if t122 = true then (some (x5_1, 0)) else (weigh_Most.l0 k1 a0 (wrap64 (x5_1 - 1)))) = some (r1, r2) := H
          have A5 := Aside0.mk A50
          clear A50
          by_cases c6 : t122 = true
          · subst c6
            have H1 : (some (x5_1, 0)) = some (r1, r2) := by rw [if_pos rfl] at H; exact H
            clear H
            have H := H1
            clear H1
            simp only [Option.some.injEq, Prod.mk.injEq] at H
            obtain ⟨rfl, rfl⟩ := H
            go_wp2_with (first | ((with_reducible refine gate_callee (f := 50) rfl ?_); refine goesL_ (some 20) rfl rfl Try.func50 (by kernel_rfl) rfl #[.int .i64 x5_1, .int .i64 a0] rfl (by (try simp only [List.map_toArray, List.map_cons, List.map_nil]); first | done | rfl | (simp only [List.length_drop, List.length_take]; rfl)) ?_; (with_reducible refine (weigh_search.calls x5_1 a0 t121 true _ A5.out).mono ?_); rintro e w7 ⟨v123, rfl, ho0, hb⟩; refine ⟨_, rfl, ?_⟩; have n0_ := Aside0.mk (Kd.R_lower ho0 (below_size (by repeat (first | (with_reducible first | exact HB.out | apply below_alloc | apply pw_below_drewN | apply below_drew1) | exact HB.out)))); have n1_ := Aside0.mk (below_step (by repeat (first | (with_reducible first | exact HB.out | apply below_alloc | apply pw_below_drewN | apply below_drew1) | exact HB.out)) hb); clear HB; have HO124 := n0_; have HB := n1_; clear n0_ n1_; (try clear hb); (try clear hb2); (try clear hk); (try clear hi); (try clear ho0)))
            go_ret2
            exact ⟨by first | rfl | (simp [errW_none, errW_some] <;> rfl) | (simp [*, errW_none, errW_some] <;> rfl), by repeat (first | (with_reducible first | exact HB.out | apply below_alloc | apply pw_below_drewN | apply below_drew1) | exact HB.out)⟩
          · replace c6 := Bool.eq_false_iff.mpr c6
            subst c6
            have H1 : (weigh_Most.l0 k1 a0 (wrap64 (x5_1 - 1))) = some (r1, r2) := by rw [if_neg (show ¬ (false = true) by decide)] at H; exact H
            clear H
            have H := H1
            clear H1
            have H' := Aside0.mk H
            clear H
            go_wp2_with (first | ((with_reducible refine gate_callee (f := 50) rfl ?_); refine goesL_ (some 20) rfl rfl Try.func50 (by kernel_rfl) rfl #[.int .i64 x5_1, .int .i64 a0] rfl (by (try simp only [List.map_toArray, List.map_cons, List.map_nil]); first | done | rfl | (simp only [List.length_drop, List.length_take]; rfl)) ?_; (with_reducible refine (weigh_search.calls x5_1 a0 t121 false _ A5.out).mono ?_); rintro e w8 ⟨v123, rfl, ho0, hb⟩; refine ⟨_, rfl, ?_⟩; have n0_ := Aside0.mk (Kd.R_lower ho0 (below_size (by repeat (first | (with_reducible first | exact HB.out | apply below_alloc | apply pw_below_drewN | apply below_drew1) | exact HB.out)))); have n1_ := Aside0.mk (below_step (by repeat (first | (with_reducible first | exact HB.out | apply below_alloc | apply pw_below_drewN | apply below_drew1) | exact HB.out)) hb); clear HB; have HO124 := n0_; have HB := n1_; clear n0_ n1_; (try clear hb); (try clear hb2); (try clear hk); (try clear hi); (try clear ho0)))
            go_roundg k1
            case measure => have := HK1.out; omega
            case rel => exact ⟨(wrap64 (x5_1 - 1)), (by first | rfl | (simp; done) | (simp [*]; done)), H', ⟨by have := HK1.out; omega⟩, ⟨by repeat (first | (with_reducible first | exact HB.out | apply below_alloc | apply pw_below_drewN | apply below_drew1) | exact HB.out)⟩⟩
        · rw [if_neg c4] at H
          have c4b0 : decide (0 < x5_1) = false := decide_eq_false c4
          clear c4
          simp only [Option.some.injEq, Prod.mk.injEq] at H
          obtain ⟨rfl, rfl⟩ := H
          go_wp2
          go_ret2
          exact ⟨by first | rfl | (simp [errW_none, errW_some] <;> rfl) | (simp [*, errW_none, errW_some] <;> rfl), by repeat (first | (with_reducible first | exact HB.out | apply below_alloc | apply pw_below_drewN | apply below_drew1) | exact HB.out)⟩
  · rw [if_neg c3] at H
    have c3b0 : (t120 == 0) = false := beq_eq_false_iff_ne.mpr c3
    have c3b1 : (t120 != 0) = true := bne_iff_ne.mpr c3
    simp only [Option.some.injEq, Prod.mk.injEq] at H
    obtain ⟨rfl, rfl⟩ := H
    go_enter Try.func23, Try.ntmps23
    go_wp2_with (first | ((with_reducible refine gate_callee (f := 49) rfl ?_); refine goesL_ (some 9) rfl rfl Try.func49 (by kernel_rfl) rfl #[.int .i64 1, .int .i64 a0] rfl (by (try simp only [List.map_toArray, List.map_cons, List.map_nil]); first | done | rfl | (simp only [List.length_drop, List.length_take]; rfl)) ?_; (with_reducible refine (weigh_counted.calls 1 a0 t120 _ A2.out).mono ?_); rintro e w' ⟨rfl, ⟨nd, rfl⟩⟩; refine ⟨_, rfl, ?_⟩))
    go_ret2
    exact ⟨by first | rfl | (simp [errW_none, errW_some] <;> rfl) | (simp [*, errW_none, errW_some] <;> rfl), by repeat (first | (with_reducible first | exact HB.out | apply below_alloc | apply pw_below_drewN | apply below_drew1) | exact HB.out)⟩

end Go.Proofs.Ytdbeochifofdoaa.X
end

section
-- Written by a program of this session (wip/hook.py, which runs the kit's print.py with contracts proved by hand). Not trusted: Lean checks it.
namespace Go.Proofs.Ytdbeochifofdoaa.X
open Go.RowKit Go.Proofs.YtdbeochifofdoaaW.PrintWords Go.Proofs.YtdbeochifofdoaaW.PrintLast Go.Proofs.YtdbeochifofdoaaW.PrintMore
attribute [local go_sem] max2_int min2_int max_two min_two max_three min_three max_four min_four   -- for this text's walks alone
set_option linter.unusedVariables false
set_option linter.unusedSimpArgs false

theorem eqA70 (d : Nat) (w : World) (x0 y0 x1 y1 x2 y2 : Int) :
    (Op.equalIn (d + 2) 70 (.agg #[.int .i64 x0, .int .i64 x1, .int .i64 x2]) (.agg #[.int .i64 y0, .int .i64 y1, .int .i64 y2])).run Try.prog w = .ok (x0 == y0 && (x1 == y1 && (x2 == y2))) w := by
  rw [Op.equalIn]
  simp only [Sem.run_bind, run_underlying Try.underlying70, Result.andThen_ok]
  go_simp
  rw [show List.range' 0 3 = [0, 1, 2] from rfl]
  simp only [List.forIn_cons, List.forIn_nil]
  by_cases h0 : x0 = y0
  rotate_left
  · go_simp
  subst h0
  by_cases h1 : x1 = y1
  rotate_left
  · go_simp
  subst h1
  by_cases h2 : x2 = y2
  rotate_left
  · go_simp
  subst h2
  go_simp
end Go.Proofs.Ytdbeochifofdoaa.X
end

section
/-! weigh.bad. -/
namespace Go.Proofs.Ytdbeochifofdoaa.X
open Go.RowKit Go.Proofs.YtdbeochifofdoaaW.PrintWords Go.Proofs.YtdbeochifofdoaaW.PrintLast Go.Proofs.YtdbeochifofdoaaW.PrintMore
set_option linter.unusedVariables false
set_option linter.unusedSimpArgs false
attribute [local go_sem high] eqA70

/-- Is o the mark m times way? -/
def eqTim (o m : S70) (way : Int) : Bool := o.f0 == wrap64 (m.f0 * way) && (o.f1 == wrap64 (m.f1 * way) && o.f2 == wrap64 (m.f2 * way))
def isZ (m : S70) : Bool := m.f0 == 0 && (m.f1 == 0 && m.f2 == 0)
/-- The first lot, from j on, whose mark is the mark m of the lot i, or the opposite one. -/
def badJ (m : S70) (i : Int) : List S70 → Int → Option (Int × Int × Int × Int)
  | [], _ => none
  | o :: os, j => if eqTim o m 1 = true then some (j, 1, i, 1) else if eqTim o m (-1) = true then some (j, 1, i, -1) else badJ m i os (j + 1)
def badI (L : List S70) : List S70 → Nat → Option (Int × Int × Int × Int)
  | [], _ => none
  | m :: ms, i => if isZ m = true then some (i, 1, i, 1) else match badJ m i (L.take i) 0 with | some r => some r | none => badI L ms (i + 1)
def badOut : Option (Int × Int × Int × Int) → Int × Int × Int × Int × Bool
  | some (a, b, c, d) => (a, b, c, d, true)
  | none => (0, 0, 0, 0, false)
def weigh_bad.f (a0 : Int) (l1 : List S53) : Option (Int × Int × Int × Int × Bool) := if pErr a0 l1 = 0 then some (badOut (badI (marksL a0 l1) (marksL a0 l1) 0)) else none

/-- Two pairs of numbers stored, each into a block of its own. -/
theorem two_put {W : World} {g4 g5 : Nat} (h4 : W.heap[g4]? = some (.cells #[.int .i64 0, .int .i64 0] 35 (0, 0))) (h5 : W.heap[g5]? = some (.cells #[.int .i64 0, .int .i64 0] 35 (0, 0))) (hne : g4 ≠ g5) (a b c d : Int) :
    ((((W.setCell ⟨g4, 0, none⟩ (.int .i64 a)).setCell ⟨g4, 1, none⟩ (.int .i64 b)).setCell ⟨g5, 0, none⟩ (.int .i64 c)).setCell ⟨g5, 1, none⟩ (.int .i64 d)).heap[g4]? = some (.cells #[.int .i64 a, .int .i64 b] 35 (0, 0)) ∧
    ((((W.setCell ⟨g4, 0, none⟩ (.int .i64 a)).setCell ⟨g4, 1, none⟩ (.int .i64 b)).setCell ⟨g5, 0, none⟩ (.int .i64 c)).setCell ⟨g5, 1, none⟩ (.int .i64 d)).heap[g5]? = some (.cells #[.int .i64 c, .int .i64 d] 35 (0, 0)) := by
  constructor
  · refine blk_far ?_ hne _
    refine blk_far ?_ hne _
    exact blk_set (blk_set h4 0 _) 1 _
  · refine blk_set (cs := #[.int .i64 c, .int .i64 0]) ?_ 1 _
    refine blk_set (cs := #[.int .i64 0, .int .i64 0]) ?_ 0 _
    refine blk_far ?_ (Ne.symm hne) _
    exact blk_far h5 (Ne.symm hne) _
theorem two_below {w W : World} {g4 g5 : Nat} (h : Below w.heap.size w W) (h4 : w.heap.size ≤ g4) (h5 : w.heap.size ≤ g5) (a b c d : Value) :
    Below w.heap.size w ((((W.setCell ⟨g4, 0, none⟩ a).setCell ⟨g4, 1, none⟩ b).setCell ⟨g5, 0, none⟩ c).setCell ⟨g5, 1, none⟩ d) :=
  below_set (below_set (below_set (below_set h h4) h4) h5) h5
/-- times, and what two marks in memory hold behind it. -/
theorem times_six (a b c k t0 t1 t2 : Int) (ht : weigh_mark_times.f a b c k = some (t0, t1, t2)) (W : World) (p q : Nat) (x0 x1 x2 y0 y1 y2 : Value)
    (hx0 : W.cell? ⟨p, 0, none⟩ = some x0) (hx1 : W.cell? ⟨p, 1, none⟩ = some x1) (hx2 : W.cell? ⟨p, 2, none⟩ = some x2) (hy0 : W.cell? ⟨q, 0, none⟩ = some y0) (hy1 : W.cell? ⟨q, 1, none⟩ = some y1) (hy2 : W.cell? ⟨q, 2, none⟩ = some y2) :
    Calls Try.prog 94 #[.agg #[.int .i64 a, .int .i64 b, .int .i64 c], .int .i64 k] W fun e w' => e = .returned (.agg #[.int .i64 t0, .int .i64 t1, .int .i64 t2]) ∧ Below W.heap.size W w' ∧
      w'.cell? ⟨p, 0, none⟩ = some x0 ∧ w'.cell? ⟨p, 1, none⟩ = some x1 ∧ w'.cell? ⟨p, 2, none⟩ = some x2 ∧ w'.cell? ⟨q, 0, none⟩ = some y0 ∧ w'.cell? ⟨q, 1, none⟩ = some y1 ∧ w'.cell? ⟨q, 2, none⟩ = some y2 := by
  refine (weigh_mark_times.calls a b c k _ _ _ W ht).mono ?_
  rintro e w' ⟨rfl, hb⟩
  exact ⟨rfl, hb, (hb.cell (World.block_lt_of_cell? W _ hx0)).trans hx0, (hb.cell (World.block_lt_of_cell? W _ hx1)).trans hx1, (hb.cell (World.block_lt_of_cell? W _ hx2)).trans hx2, (hb.cell (World.block_lt_of_cell? W _ hy0)).trans hy0, (hb.cell (World.block_lt_of_cell? W _ hy1)).trans hy1, (hb.cell (World.block_lt_of_cell? W _ hy2)).trans hy2⟩

theorem marksL_len (lots : Int) (l : List S53) : (marksL lots l).length = lots.toNat := by simp [marksL, rowsOf]

set_option maxHeartbeats 4000000 in
set_option maxRecDepth 100000 in
theorem weigh_bad.calls (a0 : Int) (A1 : Option Addr) (c1 : Nat) (l1 : List S53) (r1 r2 r3 r4 : Int) (r5 : Bool) (w : World) (hr1 : Kd.C k53 w A1 l1.length l1) (hc1 : l1.length ≤ c1) (h : weigh_bad.f a0 l1 = some (r1, r2, r3, r4, r5)) :
    Calls Try.prog 77 #[.int .i64 a0, .slice A1 l1.length c1] w fun e w' => e = .returned (.tuple #[.agg #[.int .i64 r1, .int .i64 r2], .agg #[.int .i64 r3, .int .i64 r4], .bool r5]) ∧ Below w.heap.size w w' := by
  unfold weigh_bad.f at h
  by_cases hp : pErr a0 l1 = 0
  rotate_left
  · rw [if_neg hp] at h; cases h
  rw [if_pos hp] at h
  have OK := Aside0.mk (pErr_ok hp)
  have hmf : weigh_marks.f a0 l1 = some (marksL a0 l1) := by unfold weigh_marks.f; rw [if_pos hp]
  have hlen : (marksL a0 l1).length ≤ 13 := by rw [marksL_len]; have := OK.out.hi; omega
  generalize hL : marksL a0 l1 = L at *
  have HQ := Aside0.mk (Option.some.inj h)
  have HR := Aside0.mk hr1
  have HC := Aside0.mk hc1
  have HMF := Aside0.mk hmf
  clear h hp hr1 hc1 hmf hL
  go_enter Try.func77, Try.ntmps77
  go_wp2_with fail
  refine (weigh_marks.calls a0 A1 c1 l1 L _ (Kd.C_alloc (Kd.C_alloc HR.out _) _) HC.out HMF.out).mono ?_
  rintro e w1 ⟨v, rfl, hO, hb⟩
  obtain ⟨A, c, rfl⟩ := Kd.R_slice hO
  obtain ⟨_, hLc, hC⟩ := Kd.R_reads' hO
  have hK4 := blk_below (blk_alloc (blk_new w (.cells #[.int .i64 0, .int .i64 0] 35)) (.cells #[.int .i64 0, .int .i64 0] 35)) hb
  have hK5 := blk_below (blk_new (w.alloc (.cells #[.int .i64 0, .int .i64 0] 35)) (.cells #[.int .i64 0, .int .i64 0] 35)) hb
  rw [show (w.alloc (.cells #[.int .i64 0, .int .i64 0] 35)).heap.size = w.heap.size + 1 from by simp] at hK5
  have K4 := Aside0.mk hK4
  have K5 := Aside0.mk hK5
  have BW := Aside0.mk ((below_alloc (below_alloc (Below.refl _ w) (.cells #[.int .i64 0, .int .i64 0] 35)) (.cells #[.int .i64 0, .int .i64 0] 35)).trans (hb.mono (by simp; omega)))
  have HL := Aside0.mk hC
  have S5 := Aside0.mk (blk_lt hK5)
  clear hK4 hK5 hO hC hb
  go_wp2
  go_loopg [19] L.length (fun gg s wr => ∃ i : Nat, i ≤ L.length ∧ L.length - i ≤ gg ∧ s = .int .i64 i ∧ Aside0 (Below w1.heap.size w1 wr) ∧ Aside0 (badI L (L.drop i) i = badI L L 0))
  case atStart => exact ⟨0, Nat.zero_le _, by omega, rfl, ⟨Below.refl _ _⟩, ⟨by simp⟩⟩
  case round =>
    obtain ⟨i, hi, hg, rfl, BR, AI⟩ := hrel
    by_cases hil : i < L.length
    · have hilz : (i : Int) < (L.length : Int) := by omega
      obtain ⟨ad, e1, hx0, hx1, hx2⟩ := at_T70 HL.out i (by omega) hilz
      cases e1
      replace hx0 := (BR.out.cell (World.block_lt_of_cell? w1 _ hx0)).trans hx0
      replace hx1 := (BR.out.cell (World.block_lt_of_cell? w1 _ hx1)).trans hx1
      replace hx2 := (BR.out.cell (World.block_lt_of_cell? w1 _ hx2)).trans hx2
      simp only [Int.toNat_natCast] at hx0 hx1 hx2
      rw [show rd_T70 L (i : Int) = L.getD i z70 from rfl] at hx0 hx1 hx2
      have Bi : Aside0 (L.drop i = L.getD i z70 :: L.drop (i + 1)) := ⟨dropD _ L i hil⟩
      generalize L.getD i z70 = m at *
      have hic : (i : Int) ≤ (c : Int) := by omega
      have k4 := blk_below K4.out BR.out
      have k5 := blk_below K5.out BR.out
      have szr : w.heap.size + 1 < wr.heap.size := blk_lt k5
      have szr0 : w.heap.size < wr.heap.size := by omega
      have c40 := blk_cell k4 0
      have c41 := blk_cell k4 1
      have c50 := blk_cell k5 0
      have c51 := blk_cell k5 1
      simp only [List.getElem?_toArray, List.getElem?_cons_zero, List.getElem?_cons_succ] at c40 c41 c50 c51
      have f40 := blk_frozen k4 0
      have f41 := blk_frozen k4 1
      have f50 := blk_frozen k5 0
      have f51 := blk_frozen k5 1
      have k4' := Aside0.mk k4
      have k5' := Aside0.mk k5
      clear k4 k5
      cases hz : (m.f0 == 0 && (m.f1 == 0 && m.f2 == 0)) with
      | true =>
        have HZ := Aside0.mk (show isZ m = true from hz)
        go_wp2
        have hfin : ((i : Int), (1 : Int), (i : Int), (1 : Int), true) = (r1, r2, r3, r4, r5) := by
          have h := HQ.out
          rw [← AI.out, Bi.out, badI, if_pos HZ.out] at h
          exact h
        simp only [Prod.mk.injEq] at hfin
        obtain ⟨rfl, rfl, rfl, rfl, rfl⟩ := hfin
        refine bodyPost_ret (results_list (rs := [.cell 4 35, .cell 5 35, .tmp 6]) rfl (by simp) (.cell w.heap.size 35 #[.int .i64 i, .int .i64 1] (0, 0) _ rfl (by repeat (first | (with_reducible exact (two_put k4'.out k5'.out (by omega) _ _ _ _).1) | (with_reducible refine blk_alloc ?_ _) | (with_reducible refine blk_drewN ?_ _) | (with_reducible refine blk_drew ?_))) Try.underlying35 rfl (by kernel_rfl) (.cell (w.heap.size + 1) 35 #[.int .i64 i, .int .i64 1] (0, 0) _ rfl (by repeat (first | (with_reducible exact (two_put k4'.out k5'.out (by omega) _ _ _ _).2) | (with_reducible refine blk_alloc ?_ _) | (with_reducible refine blk_drewN ?_ _) | (with_reducible refine blk_drew ?_))) Try.underlying35 rfl (by kernel_rfl) (.tmp .nil)))) rfl ?_
        exact ⟨rfl, below_alloc (two_below (BW.out.trans (BR.out.mono BW.out.size)) (Nat.le_refl _) (Nat.le_succ _) _ _ _ _) _⟩
      | false =>
        have HZ := Aside0.mk (show isZ m = false from hz)
        have htake : ∀ j, j < i → (L.take i).drop j = L.getD j z70 :: (L.take i).drop (j + 1) := by
          intro j hj
          rw [dropD z70 (L.take i) j (by rw [List.length_take]; omega)]
          congr 1
          simp [List.getD_eq_getElem?_getD, List.getElem?_take, hj]
        have HT := Aside0.mk htake
        generalize hJ : badJ m i (L.take i) 0 = RJ
        have AJ := Aside0.mk hJ
        clear htake hJ
        go_wp2
        obtain ⟨wo, rfl⟩ : ∃ q : World, q = wr := ⟨_, rfl⟩
        obtain ⟨go, rfl⟩ : ∃ q : Nat, q = gk := ⟨_, rfl⟩
        go_loopg [35] i (fun gg s wi => ∃ j : Nat, j ≤ i ∧ i - j ≤ gg ∧ s = .int .i64 j ∧ Aside0 (Below wo.heap.size wo wi) ∧ Aside0 (wi.heap[wo.heap.size]? = some (.cells #[.int .i64 m.f0, .int .i64 m.f1, .int .i64 m.f2] 70 (0, 0))) ∧ Aside0 (badJ m i ((L.take i).drop j) j = RJ))
        case atStart => exact ⟨0, Nat.zero_le _, by omega, rfl, ⟨below_alloc (Below.refl _ _) _⟩, ⟨blk_new _ _⟩, ⟨by rw [← AJ.out]; simp⟩⟩
        case round =>
          clear c40 c41 c50 c51 f40 f41 f50 f51 szr szr0 hx0 hx1 hx2
          obtain ⟨j, hj, hgj, rfl, BI, HX, AI2⟩ := hrel
          by_cases hji : j < i
          · have hjz : (j : Int) < (i : Int) := by omega
            have BRI := Aside0.mk (BR.out.trans (BI.out.mono BR.out.size))
            obtain ⟨ad', e1, hx0, hx1, hx2⟩ := at_T70 HL.out j (by omega) (by omega)
            cases e1
            replace hx0 := (BRI.out.cell (World.block_lt_of_cell? w1 _ hx0)).trans hx0
            replace hx1 := (BRI.out.cell (World.block_lt_of_cell? w1 _ hx1)).trans hx1
            replace hx2 := (BRI.out.cell (World.block_lt_of_cell? w1 _ hx2)).trans hx2
            simp only [Int.toNat_natCast] at hx0 hx1 hx2
            rw [show rd_T70 L (j : Int) = L.getD j z70 from rfl] at hx0 hx1 hx2
            have Bj := HT.out j hji
            generalize L.getD j z70 = o at *
            have BJ := Aside0.mk Bj
            have hy0 := blk_cell HX.out 0
            have hy1 := blk_cell HX.out 1
            have hy2 := blk_cell HX.out 2
            have szo : wo.heap.size < wr.heap.size := blk_lt HX.out
            clear Bj
            go_wp2
            refine wp_loop_rounds 3 ?_
            rw [rounds_succ]
            go_wp2
            have kk4 := Aside0.mk (blk_below k4'.out BI.out)
            have kk5 := Aside0.mk (blk_below k5'.out BI.out)
            have hsl := blk_new (wr.alloc (.cells #[.int .i64 o.f0, .int .i64 o.f1, .int .i64 o.f2] 70)) (.cells #[.int .i64 1, .int .i64 (-1)] 3)
            rw [show (wr.alloc (.cells #[.int .i64 o.f0, .int .i64 o.f1, .int .i64 o.f2] 70)).heap.size = wr.heap.size + 1 from by simp] at hsl
            have KS := Aside0.mk hsl
            clear hsl
            obtain ⟨t0, ht0⟩ : ∃ z, z = wrap64 (m.f0 * (1)) := ⟨_, rfl⟩
            obtain ⟨t1, ht1⟩ : ∃ z, z = wrap64 (m.f1 * (1)) := ⟨_, rfl⟩
            obtain ⟨t2, ht2⟩ : ∃ z, z = wrap64 (m.f2 * (1)) := ⟨_, rfl⟩
            have HF := Aside0.mk (show weigh_mark_times.f m.f0 m.f1 m.f2 (1) = some (t0, t1, t2) by rw [ht0, ht1, ht2]; rfl)
            have HE := Aside0.mk (show eqTim o m (1) = (o.f0 == t0 && (o.f1 == t1 && o.f2 == t2)) by rw [ht0, ht1, ht2]; rfl)
            clear ht0 ht1 ht2
            go_region_held3 (fun W => W.cell? ⟨wo.heap.size, 0, none⟩ = some (.int .i64 m.f0) ∧ W.cell? ⟨wo.heap.size, 1, none⟩ = some (.int .i64 m.f1) ∧ W.cell? ⟨wo.heap.size, 2, none⟩ = some (.int .i64 m.f2) ∧ W.cell? ⟨wr.heap.size, 0, none⟩ = some (.int .i64 o.f0) ∧ W.cell? ⟨wr.heap.size, 1, none⟩ = some (.int .i64 o.f1) ∧ W.cell? ⟨wr.heap.size, 2, none⟩ = some (.int .i64 o.f2)) (go_keep) (first | (go_at_call 94; refine (times_six m.f0 m.f1 m.f2 (1) t0 t1 t2 HF.out _ wo.heap.size wr.heap.size (.int .i64 m.f0) (.int .i64 m.f1) (.int .i64 m.f2) (.int .i64 o.f0) (.int .i64 o.f1) (.int .i64 o.f2) ?_ ?_ ?_ ?_ ?_ ?_).mono ?_; (simp [*]); (simp [*]); (simp [*]); (simp [*]); (simp [*]); (simp [*]); rintro e w' ⟨rfl, hbT, hT0, hT1, hT2, hT3, hT4, hT5⟩))
            have k4n := blk_below (g := w.heap.size) (o := .cells #[.int .i64 0, .int .i64 0] 35 (0, 0)) (by repeat (first | (with_reducible exact kk4.out) | (with_reducible refine blk_alloc ?_ _) | (with_reducible refine blk_drewN ?_ _) | (with_reducible refine blk_drew ?_))) hbT
            have k5n := blk_below (g := w.heap.size + 1) (o := .cells #[.int .i64 0, .int .i64 0] 35 (0, 0)) (by repeat (first | (with_reducible exact kk5.out) | (with_reducible refine blk_alloc ?_ _) | (with_reducible refine blk_drewN ?_ _) | (with_reducible refine blk_drew ?_))) hbT
            have HXn := blk_below (g := wo.heap.size) (o := .cells #[.int .i64 m.f0, .int .i64 m.f1, .int .i64 m.f2] 70 (0, 0)) (by repeat (first | (with_reducible exact HX.out) | (with_reducible refine blk_alloc ?_ _) | (with_reducible refine blk_drewN ?_ _) | (with_reducible refine blk_drew ?_))) hbT
            have hBn : Aside0 (Below wo.heap.size wo w') := ⟨Below.trans (by repeat (first | (with_reducible exact BI.out) | (with_reducible apply pw_below_drewN) | (with_reducible apply below_drew1) | (with_reducible refine Below.alloc ?_ (by first | exact BI.out.size | (simp; omega)) _))) (hbT.mono (by first | omega | (simp; omega)))⟩
            generalize hE : (o.f0 == t0 && (o.f1 == t1 && o.f2 == t2)) = be at *
            clear hE
            cases be with
            | true =>
              have szq : w.heap.size + 1 < w'.heap.size := blk_lt k5n
              have szq0 : w.heap.size < w'.heap.size := by omega
              have c40 := blk_cell k4n 0
              have c41 := blk_cell k4n 1
              have c50 := blk_cell k5n 0
              have c51 := blk_cell k5n 1
              simp only [List.getElem?_toArray, List.getElem?_cons_zero, List.getElem?_cons_succ] at c40 c41 c50 c51
              have f40 := blk_frozen k4n 0
              have f41 := blk_frozen k4n 1
              have f50 := blk_frozen k5n 0
              have f51 := blk_frozen k5n 1
              have kn4 := Aside0.mk k4n
              have kn5 := Aside0.mk k5n
              clear k4n k5n HXn
              go_wp2
              have hfin : ((j : Int), (1 : Int), (i : Int), (1 : Int), true) = (r1, r2, r3, r4, r5) := by
                have h := HQ.out
                have h2 := AI2.out
                rw [BJ.out, badJ, if_pos HE.out] at h2
                rw [← AI.out, Bi.out, badI, if_neg (by rw [HZ.out]; simp), AJ.out, ← h2] at h
                exact h
              simp only [Prod.mk.injEq] at hfin
              obtain ⟨rfl, rfl, rfl, rfl, rfl⟩ := hfin
              refine bodyPost_ret (results_list (rs := [.cell 4 35, .cell 5 35, .tmp 6]) rfl (by simp) (.cell w.heap.size 35 #[.int .i64 j, .int .i64 1] (0, 0) _ rfl (by repeat (first | (with_reducible exact (two_put kn4.out kn5.out (by omega) _ _ _ _).1) | (with_reducible refine blk_alloc ?_ _) | (with_reducible refine blk_drewN ?_ _) | (with_reducible refine blk_drew ?_))) Try.underlying35 rfl (by kernel_rfl) (.cell (w.heap.size + 1) 35 #[.int .i64 i, .int .i64 (1)] (0, 0) _ rfl (by repeat (first | (with_reducible exact (two_put kn4.out kn5.out (by omega) _ _ _ _).2) | (with_reducible refine blk_alloc ?_ _) | (with_reducible refine blk_drewN ?_ _) | (with_reducible refine blk_drew ?_))) Try.underlying35 rfl (by kernel_rfl) (.tmp .nil)))) rfl ?_
              exact ⟨rfl, two_below ((BW.out.trans (BR.out.mono BW.out.size)).trans (hBn.out.mono (Nat.le_trans BW.out.size BR.out.size))) (Nat.le_refl _) (Nat.le_succ _) _ _ _ _⟩
            | false =>
              have kn4 := Aside0.mk k4n
              have kn5 := Aside0.mk k5n
              have HX2 := Aside0.mk HXn
              have BI2 := hBn
              have HE1 := HE
              have hs1 := blk_cell (blk_below (g := wr.heap.size + 1) (o := .cells #[.int .i64 1, .int .i64 (-1)] 3 (0, 0)) (by repeat (first | (with_reducible exact KS.out) | (with_reducible refine blk_alloc ?_ _) | (with_reducible refine blk_drewN ?_ _) | (with_reducible refine blk_drew ?_))) hbT) 1
              have kl4 : wr.heap.size < w'.heap.size := by have := hbT.size; simp at this; omega
              clear k4n k5n HXn hBn HE HF hbT KS kk4 kk5
              go_wp2
              rw [rounds_succ]
              obtain ⟨wp, rfl⟩ : ∃ q : World, q = w' := ⟨_, rfl⟩
              go_wp2
              obtain ⟨t0, ht0⟩ : ∃ z, z = wrap64 (m.f0 * (-1)) := ⟨_, rfl⟩
              obtain ⟨t1, ht1⟩ : ∃ z, z = wrap64 (m.f1 * (-1)) := ⟨_, rfl⟩
              obtain ⟨t2, ht2⟩ : ∃ z, z = wrap64 (m.f2 * (-1)) := ⟨_, rfl⟩
              have HF := Aside0.mk (show weigh_mark_times.f m.f0 m.f1 m.f2 (-1) = some (t0, t1, t2) by rw [ht0, ht1, ht2]; rfl)
              have HE := Aside0.mk (show eqTim o m (-1) = (o.f0 == t0 && (o.f1 == t1 && o.f2 == t2)) by rw [ht0, ht1, ht2]; rfl)
              clear ht0 ht1 ht2
              go_region_held3 (fun W => W.cell? ⟨wo.heap.size, 0, none⟩ = some (.int .i64 m.f0) ∧ W.cell? ⟨wo.heap.size, 1, none⟩ = some (.int .i64 m.f1) ∧ W.cell? ⟨wo.heap.size, 2, none⟩ = some (.int .i64 m.f2) ∧ W.cell? ⟨wr.heap.size, 0, none⟩ = some (.int .i64 o.f0) ∧ W.cell? ⟨wr.heap.size, 1, none⟩ = some (.int .i64 o.f1) ∧ W.cell? ⟨wr.heap.size, 2, none⟩ = some (.int .i64 o.f2)) (go_keep) (first | (go_at_call 94; refine (times_six m.f0 m.f1 m.f2 (-1) t0 t1 t2 HF.out _ wo.heap.size wr.heap.size (.int .i64 m.f0) (.int .i64 m.f1) (.int .i64 m.f2) (.int .i64 o.f0) (.int .i64 o.f1) (.int .i64 o.f2) ?_ ?_ ?_ ?_ ?_ ?_).mono ?_; (simp [*]); (simp [*]); (simp [*]); (simp [*]); (simp [*]); (simp [*]); rintro e w' ⟨rfl, hbT, hT0, hT1, hT2, hT3, hT4, hT5⟩))
              have k4n := blk_below (g := w.heap.size) (o := .cells #[.int .i64 0, .int .i64 0] 35 (0, 0)) (by repeat (first | (with_reducible exact kn4.out) | (with_reducible refine blk_alloc ?_ _) | (with_reducible refine blk_drewN ?_ _) | (with_reducible refine blk_drew ?_))) hbT
              have k5n := blk_below (g := w.heap.size + 1) (o := .cells #[.int .i64 0, .int .i64 0] 35 (0, 0)) (by repeat (first | (with_reducible exact kn5.out) | (with_reducible refine blk_alloc ?_ _) | (with_reducible refine blk_drewN ?_ _) | (with_reducible refine blk_drew ?_))) hbT
              have HXn := blk_below (g := wo.heap.size) (o := .cells #[.int .i64 m.f0, .int .i64 m.f1, .int .i64 m.f2] 70 (0, 0)) (by repeat (first | (with_reducible exact HX2.out) | (with_reducible refine blk_alloc ?_ _) | (with_reducible refine blk_drewN ?_ _) | (with_reducible refine blk_drew ?_))) hbT
              have hBn : Aside0 (Below wo.heap.size wo w') := ⟨Below.trans (by repeat (first | (with_reducible exact BI2.out) | (with_reducible apply pw_below_drewN) | (with_reducible apply below_drew1) | (with_reducible refine Below.alloc ?_ (by first | exact BI2.out.size | (simp; omega)) _))) (hbT.mono (by first | omega | (simp; omega)))⟩
              generalize hE : (o.f0 == t0 && (o.f1 == t1 && o.f2 == t2)) = be at *
              clear hE
              cases be with
              | true =>
                have szq : w.heap.size + 1 < w'.heap.size := blk_lt k5n
                have szq0 : w.heap.size < w'.heap.size := by omega
                have c40 := blk_cell k4n 0
                have c41 := blk_cell k4n 1
                have c50 := blk_cell k5n 0
                have c51 := blk_cell k5n 1
                simp only [List.getElem?_toArray, List.getElem?_cons_zero, List.getElem?_cons_succ] at c40 c41 c50 c51
                have f40 := blk_frozen k4n 0
                have f41 := blk_frozen k4n 1
                have f50 := blk_frozen k5n 0
                have f51 := blk_frozen k5n 1
                have kn4 := Aside0.mk k4n
                have kn5 := Aside0.mk k5n
                clear k4n k5n HXn
                go_wp2
                have hfin : ((j : Int), (1 : Int), (i : Int), (-1 : Int), true) = (r1, r2, r3, r4, r5) := by
                  have h := HQ.out
                  have h2 := AI2.out
                  rw [BJ.out, badJ, if_neg (by rw [HE1.out]; simp), if_pos HE.out] at h2
                  rw [← AI.out, Bi.out, badI, if_neg (by rw [HZ.out]; simp), AJ.out, ← h2] at h
                  exact h
                simp only [Prod.mk.injEq] at hfin
                obtain ⟨rfl, rfl, rfl, rfl, rfl⟩ := hfin
                refine bodyPost_ret (results_list (rs := [.cell 4 35, .cell 5 35, .tmp 6]) rfl (by simp) (.cell w.heap.size 35 #[.int .i64 j, .int .i64 1] (0, 0) _ rfl (by repeat (first | (with_reducible exact (two_put kn4.out kn5.out (by omega) _ _ _ _).1) | (with_reducible refine blk_alloc ?_ _) | (with_reducible refine blk_drewN ?_ _) | (with_reducible refine blk_drew ?_))) Try.underlying35 rfl (by kernel_rfl) (.cell (w.heap.size + 1) 35 #[.int .i64 i, .int .i64 (-1)] (0, 0) _ rfl (by repeat (first | (with_reducible exact (two_put kn4.out kn5.out (by omega) _ _ _ _).2) | (with_reducible refine blk_alloc ?_ _) | (with_reducible refine blk_drewN ?_ _) | (with_reducible refine blk_drew ?_))) Try.underlying35 rfl (by kernel_rfl) (.tmp .nil)))) rfl ?_
                exact ⟨rfl, two_below ((BW.out.trans (BR.out.mono BW.out.size)).trans (hBn.out.mono (Nat.le_trans BW.out.size BR.out.size))) (Nat.le_refl _) (Nat.le_succ _) _ _ _ _⟩
              | false =>
                have HXm := Aside0.mk HXn
                clear k4n k5n HXn
                go_wp2
                rw [rounds_succ]
                go_wp2
                go_roundg (i - (j + 1))
                case measure => omega
                case rel =>
                  refine ⟨j + 1, by omega, by omega, by go_num, hBn, HXm, ⟨?_⟩⟩
                  have h2 := AI2.out
                  rw [BJ.out, badJ, if_neg (by rw [HE1.out]; simp), if_neg (by rw [HE.out]; simp)] at h2
                  exact h2
          · have hjz : ¬ (j : Int) < (i : Int) := by omega
            have hji' : i ≤ j := by omega
            go_wp2
            go_roundg (L.length - (i + 1))
            case measure => omega
            case rel =>
              refine ⟨i + 1, by omega, by omega, by go_num, ⟨BR.out.trans (BI.out.mono BR.out.size)⟩, ⟨?_⟩⟩
              have h2 := AI2.out
              rw [List.drop_eq_nil_of_le (by rw [List.length_take]; omega)] at h2
              have h := AI.out
              rw [Bi.out, badI, if_neg (by rw [HZ.out]; simp), AJ.out, ← h2] at h
              exact h
    · have hilz : ¬ (i : Int) < (L.length : Int) := by omega
      have hil' : L.length ≤ i := by omega
      have k4 := blk_below K4.out BR.out
      have k5 := blk_below K5.out BR.out
      have szr : w.heap.size + 1 < wr.heap.size := blk_lt k5
      have szr0 : w.heap.size < wr.heap.size := by omega
      have c40 := blk_cell k4 0
      have c41 := blk_cell k4 1
      have c50 := blk_cell k5 0
      have c51 := blk_cell k5 1
      simp only [List.getElem?_toArray, List.getElem?_cons_zero, List.getElem?_cons_succ] at c40 c41 c50 c51
      have f40 := blk_frozen k4 0
      have f41 := blk_frozen k4 1
      have f50 := blk_frozen k5 0
      have f51 := blk_frozen k5 1
      have k4' := Aside0.mk k4
      have k5' := Aside0.mk k5
      clear k4 k5
      go_wp2
      have hfin : ((0 : Int), (0 : Int), (0 : Int), (0 : Int), false) = (r1, r2, r3, r4, r5) := by
        have h := HQ.out
        rw [← AI.out, List.drop_eq_nil_of_le hil'] at h
        exact h
      simp only [Prod.mk.injEq] at hfin
      obtain ⟨rfl, rfl, rfl, rfl, rfl⟩ := hfin
      refine bodyPost_ret (results_list (rs := [.cell 4 35, .cell 5 35, .tmp 6]) rfl (by simp) (.cell w.heap.size 35 #[.int .i64 0, .int .i64 0] (0, 0) _ rfl (by repeat (first | (with_reducible exact (two_put k4'.out k5'.out (by omega) _ _ _ _).1) | (with_reducible refine blk_alloc ?_ _) | (with_reducible refine blk_drewN ?_ _) | (with_reducible refine blk_drew ?_))) Try.underlying35 rfl (by kernel_rfl) (.cell (w.heap.size + 1) 35 #[.int .i64 0, .int .i64 0] (0, 0) _ rfl (by repeat (first | (with_reducible exact (two_put k4'.out k5'.out (by omega) _ _ _ _).2) | (with_reducible refine blk_alloc ?_ _) | (with_reducible refine blk_drewN ?_ _) | (with_reducible refine blk_drew ?_))) Try.underlying35 rfl (by kernel_rfl) (.tmp .nil)))) rfl ?_
      exact ⟨rfl, two_below (BW.out.trans (BR.out.mono BW.out.size)) (Nat.le_refl _) (Nat.le_succ _) _ _ _ _⟩
end Go.Proofs.Ytdbeochifofdoaa.X
end

section
-- Written by a program of this session (wip/hook.py, which runs the kit's print.py with contracts proved by hand). Not trusted: Lean checks it.
namespace Go.Proofs.Ytdbeochifofdoaa.X
open Go.RowKit Go.Proofs.YtdbeochifofdoaaW.PrintWords Go.Proofs.YtdbeochifofdoaaW.PrintLast Go.Proofs.YtdbeochifofdoaaW.PrintMore
attribute [local go_sem] max2_int min2_int max_two min_two max_three min_three max_four min_four   -- for this text's walks alone
set_option linter.unusedVariables false
set_option linter.unusedSimpArgs false

-- GIVEN: function 58 (weigh_Validate): YtdbeochifofdoaaG58

-- GIVEN: function 90 (weigh_marks): YtdbeochifofdoaaG90

-- GIVEN: function 77 (weigh_bad): YtdbeochifofdoaaG77

/-! ### weigh_Tells: function 44 -/
def weigh_Tells.f (a0 : Int) (l1 : List (S53)) : Option (Bool × Int) := (weigh_Validate.f a0 l1).bind fun t128 => (if t128 = 0 then ((weigh_bad.f a0 l1).bind fun bt129 => (some (!bt129.2.2.2.2, 0))) else (some (false, t128)))
set_option maxHeartbeats 8000000 in
set_option maxRecDepth 100000 in
theorem weigh_Tells.calls (a0 : Int) (A1 : Option Addr) (c1 : Nat) (l1 : List (S53)) (r1 : Bool) (r2 : Int) (w : World) (hr1 : Kd.C k53 w A1 l1.length l1) (hc1 : l1.length ≤ c1) (h : weigh_Tells.f a0 l1 = some (r1, r2)) :
    Calls Try.prog 44 #[.int .i64 a0, .slice A1 l1.length c1] w fun e w' => e = .returned (.tuple #[.bool r1, .int .i64 r2]) ∧ Below w.heap.size w w' := by
  have hu35 := Try.underlying35
  have HR1 := Aside0.mk hr1
  have HC1 := Aside0.mk hc1
  clear hr1 hc1
  have HB := Aside0.mk (Below.refl w.heap.size w)
  have H : ((weigh_Validate.f a0 l1).bind fun t128 => (if t128 = 0 then ((weigh_bad.f a0 l1).bind fun bt129 => (some (!bt129.2.2.2.2, 0))) else (some (false, t128)))) = some (r1, r2) := h
  clear h
  replace H := Option.bind_eq_some_iff.mp H
  obtain ⟨t128, A30, H⟩ := H
  replace H : (if t128 = 0 then ((weigh_bad.f a0 l1).bind fun bt129 => (some (!bt129.2.2.2.2, 0))) else (some (false, t128))) = some (r1, r2) := H
  have A3 := Aside0.mk A30
  clear A30
  by_cases c4 : t128 = 0
  · rw [if_pos c4] at H
    have c4b0 : (t128 == 0) = true := beq_iff_eq.mpr c4
    have c4b1 : (t128 != 0) = false := bne_eq_false_iff_eq.mpr c4
    clear c4
    replace H := Option.bind_eq_some_iff.mp H
    obtain ⟨⟨t129, t130, t131, t132, t133⟩, A50, H⟩ := H
    replace H : (some (!t133, 0)) = some (r1, r2) := H
    have A5 := Aside0.mk A50
    clear A50
    simp only [Option.some.injEq, Prod.mk.injEq] at H
    obtain ⟨rfl, rfl⟩ := H
    go_enter Try.func44, Try.ntmps44
    go_wp2_with (first | ((with_reducible refine gate_callee (f := 58) rfl ?_); refine goesL_ (some 12) rfl rfl Try.func58 (by kernel_rfl) rfl #[.int .i64 a0, .slice A1 l1.length c1] rfl (by (try simp only [List.map_toArray, List.map_cons, List.map_nil]); first | done | rfl | (simp only [List.length_drop, List.length_take]; rfl)) ?_; (with_reducible refine (weigh_Validate.calls a0 _ _ l1 t128 _ ?side1 ?side2 A3.out).mono ?_); (case side1 => repeat (first | exact HR1.out | (with_reducible refine Kd.C_alloc ?_ _) | (with_reducible refine Kd.C_drewN ?_ _) | (with_reducible refine Kd.C_drew ?_))); (case side2 => exact HC1.out); rintro e w6 ⟨rfl, hb⟩; refine ⟨_, rfl, ?_⟩; have n0_ := Aside0.mk (below_step (by repeat (first | (with_reducible first | exact HB.out | apply below_alloc | apply pw_below_drewN | apply below_drew1) | exact HB.out)) hb); clear HB; have HB := n0_; clear n0_; (try clear hb); (try clear hb2); (try clear hk); (try clear hi)) | ((with_reducible refine gate_callee (f := 77) rfl ?_); refine goesL_ (some 19) rfl rfl Try.func77 (by kernel_rfl) rfl #[.int .i64 a0, .slice A1 l1.length c1] rfl (by (try simp only [List.map_toArray, List.map_cons, List.map_nil]); first | done | rfl | (simp only [List.length_drop, List.length_take]; rfl)) ?_; (with_reducible refine (weigh_bad.calls a0 _ _ l1 t129 t130 t131 t132 t133 _ ?side1 ?side2 A5.out).mono ?_); (case side1 => repeat (first | exact (Kd.C_below HR1.out HB.out) | (with_reducible refine Kd.C_alloc ?_ _) | (with_reducible refine Kd.C_drewN ?_ _) | (with_reducible refine Kd.C_drew ?_))); (case side2 => exact HC1.out); rintro e w7 ⟨rfl, hb⟩; refine ⟨_, rfl, ?_⟩; have n0_ := Aside0.mk (below_step (by repeat (first | (with_reducible first | exact HB.out | apply below_alloc | apply pw_below_drewN | apply below_drew1) | exact HB.out)) hb); clear HB; have HB := n0_; clear n0_; (try clear hb); (try clear hb2); (try clear hk); (try clear hi)) | ((with_reducible refine gate_dst (N := 7) rfl ?_); refine box_event ?hg (N := 7) ?hd (cs := #[.int .i64 0, .int .i64 0]) (t := 35) ?hr ?_; (case hd => rfl); (case hg => rfl); (case hr => first | (go_simp; done) | (go_simp; rfl)); intro gb134 hg w8 hbox hb; have n0_ := Aside0.mk (below_step (by repeat (first | (with_reducible first | exact HB.out | apply below_alloc | apply pw_below_drewN | apply below_drew1) | exact HB.out)) hb); have n1_ := Aside0.mk (hbox); have n2_ := Aside0.mk ((by rw [hg]; exact (below_size (by repeat (first | (with_reducible first | exact HB.out | apply below_alloc | apply pw_below_drewN | apply below_drew1) | exact HB.out))) : w.heap.size ≤ gb134)); have n3_ := Aside0.mk ((by rw [hg]; exact (below_size (by repeat (first | (with_reducible first | exact HB.out | apply below_alloc | apply pw_below_drewN | apply below_drew1) | exact HB.out))) : w.heap.size ≤ gb134)); clear HB; have HB := n0_; have BK134 := n1_; have GW134 := n2_; have GE134 := n3_; clear n0_ n1_ n2_ n3_; clear hb hbox hg) | ((with_reducible refine gate_dst (N := 8) rfl ?_); refine box_event ?hg (N := 8) ?hd (cs := #[.int .i64 0, .int .i64 0]) (t := 35) ?hr ?_; (case hd => rfl); (case hg => rfl); (case hr => first | (go_simp; done) | (go_simp; rfl)); intro gb135 hg w9 hbox hb; have n0_ := Aside0.mk (blk_below (g := gb134) (o := .cells #[.int .i64 0, .int .i64 0] 35 (0, 0)) (by (with_reducible repeat (first | refine blk_drewN ?_ _ | refine blk_drew ?_ | refine blk_alloc ?_ _)); exact BK134.out) hb); have n1_ := Aside0.mk (below_step (by repeat (first | (with_reducible first | exact HB.out | apply below_alloc | apply pw_below_drewN | apply below_drew1 | refine below_set ?_ GE134.out) | exact HB.out)) hb); have n2_ := Aside0.mk (hbox); have n3_ := Aside0.mk ((by rw [hg]; exact (below_size (by repeat (first | (with_reducible first | exact HB.out | apply below_alloc | apply pw_below_drewN | apply below_drew1 | refine below_set ?_ GE134.out) | exact HB.out))) : w.heap.size ≤ gb135)); have n4_ := Aside0.mk ((by rw [hg]; exact (below_size (by repeat (first | (with_reducible first | exact HB.out | apply below_alloc | apply pw_below_drewN | apply below_drew1 | refine below_set ?_ GE134.out) | exact HB.out))) : w.heap.size ≤ gb135)); have n5_ := Aside0.mk ((by rw [hg]; exact Nat.ne_of_lt (blk_lt (g := gb134) (o := .cells #[.int .i64 0, .int .i64 0] 35 (0, 0)) (by (with_reducible repeat (first | refine blk_drewN ?_ _ | refine blk_drew ?_ | refine blk_alloc ?_ _)); exact BK134.out)) : gb134 ≠ gb135)); have n6_ := Aside0.mk ((by rw [hg]; exact Nat.ne_of_gt (blk_lt (g := gb134) (o := .cells #[.int .i64 0, .int .i64 0] 35 (0, 0)) (by (with_reducible repeat (first | refine blk_drewN ?_ _ | refine blk_drew ?_ | refine blk_alloc ?_ _)); exact BK134.out)) : gb135 ≠ gb134)); clear BK134; clear HB; have BK134 := n0_; have HB := n1_; have BK135 := n2_; have GW135 := n3_; have GE135 := n4_; have NB134_135 := n5_; have NB135_134 := n6_; clear n0_ n1_ n2_ n3_ n4_ n5_ n6_; clear hb hbox hg; have hnb10 := NB134_135.out; have hnc10 := NB135_134.out; have hcz11_0 : w9.cell? ⟨gb134, 0, none⟩ = some (.int .i64 0) := (blk_cell BK134.out 0).trans rfl; have hcz11_1 : w9.cell? ⟨gb134, 1, none⟩ = some (.int .i64 0) := (blk_cell BK134.out 1).trans rfl; have hfz11_0 := blk_frozen BK134.out 0; have hfz11_1 := blk_frozen BK134.out 1; have hcz12_0 : w9.cell? ⟨gb135, 0, none⟩ = some (.int .i64 0) := (blk_cell BK135.out 0).trans rfl; have hcz12_1 : w9.cell? ⟨gb135, 1, none⟩ = some (.int .i64 0) := (blk_cell BK135.out 1).trans rfl; have hfz12_0 := blk_frozen BK135.out 0; have hfz12_1 := blk_frozen BK135.out 1))
    go_ret2
    exact ⟨by first | rfl | (simp [errW_none, errW_some] <;> rfl) | (simp [*, errW_none, errW_some] <;> rfl), by repeat (first | (with_reducible first | exact HB.out | apply below_alloc | apply pw_below_drewN | apply below_drew1 | refine below_set ?_ GE134.out | refine below_set ?_ GE135.out) | exact HB.out)⟩
  · rw [if_neg c4] at H
    have c4b0 : (t128 == 0) = false := beq_eq_false_iff_ne.mpr c4
    have c4b1 : (t128 != 0) = true := bne_iff_ne.mpr c4
    simp only [Option.some.injEq, Prod.mk.injEq] at H
    obtain ⟨rfl, rfl⟩ := H
    go_enter Try.func44, Try.ntmps44
    go_wp2_with (first | ((with_reducible refine gate_callee (f := 58) rfl ?_); refine goesL_ (some 12) rfl rfl Try.func58 (by kernel_rfl) rfl #[.int .i64 a0, .slice A1 l1.length c1] rfl (by (try simp only [List.map_toArray, List.map_cons, List.map_nil]); first | done | rfl | (simp only [List.length_drop, List.length_take]; rfl)) ?_; (with_reducible refine (weigh_Validate.calls a0 _ _ l1 t128 _ ?side1 ?side2 A3.out).mono ?_); (case side1 => repeat (first | exact HR1.out | (with_reducible refine Kd.C_alloc ?_ _) | (with_reducible refine Kd.C_drewN ?_ _) | (with_reducible refine Kd.C_drew ?_))); (case side2 => exact HC1.out); rintro e w13 ⟨rfl, hb⟩; refine ⟨_, rfl, ?_⟩; have n0_ := Aside0.mk (below_step (by repeat (first | (with_reducible first | exact HB.out | apply below_alloc | apply pw_below_drewN | apply below_drew1) | exact HB.out)) hb); clear HB; have HB := n0_; clear n0_; (try clear hb); (try clear hb2); (try clear hk); (try clear hi)))
    go_ret2
    exact ⟨by first | rfl | (simp [errW_none, errW_some] <;> rfl) | (simp [*, errW_none, errW_some] <;> rfl), by repeat (first | (with_reducible first | exact HB.out | apply below_alloc | apply pw_below_drewN | apply below_drew1) | exact HB.out)⟩

-- GIVEN: function 91 (slices_Clone_int_int): YtdbeochifofdoaaG91

-- GIVEN: function 51 (weigh_Marks): YtdbeochifofdoaaG51

/-! ### verditerlaw06_example: function 52 -/
def verditerlaw06_example.f  : Option ((List (S53))) := some (([(⟨(([0] : List Int)), (([1] : List Int))⟩ : S53), (⟨(([1] : List Int)), (([2] : List Int))⟩ : S53)] : List (S53)))
set_option maxHeartbeats 8000000 in
set_option maxRecDepth 100000 in
theorem verditerlaw06_example.calls  (r : List (S53)) (w : World) (h : verditerlaw06_example.f  = some r) :
    Calls Try.prog 52 #[] w fun e w' => ∃ v0_ : Value, e = .returned (v0_) ∧ Kd.N k53 53 w' w.heap.size (fun k_ => (w.heap.size ≤ k_)) v0_ r ∧ Below w.heap.size w w' := by
  have hu53 := Try.underlying53
  have HB := Aside0.mk (Below.refl w.heap.size w)
  have H : (some (([(⟨(([0] : List Int)), (([1] : List Int))⟩ : S53), (⟨(([1] : List Int)), (([2] : List Int))⟩ : S53)] : List (S53)))) = some r := h
  clear h
  obtain ⟨y136, hy136⟩ : ∃ y_ : List Int, y_ = (([0] : List Int)) := ⟨_, rfl⟩
  replace H : (some (([(⟨y136, (([1] : List Int))⟩ : S53), (⟨(([1] : List Int)), (([2] : List Int))⟩ : S53)] : List (S53)))) = some r := by first | (rw [hy136]; with_reducible exact H) | (have H2_ := (Option.bind_some _ _).symm.trans H; rw [hy136]; with_reducible exact H2_) | (have H2_ := (Option.bind_some _ _).symm.trans H; with_reducible exact H2_) | with_reducible exact H | (rw [hy136]; exact H) | exact H
  have Ny136 := Aside0.mk hy136
  clear hy136
  obtain ⟨y139, hy139⟩ : ∃ y_ : List Int, y_ = (([1] : List Int)) := ⟨_, rfl⟩
  replace H : (some (([(⟨y136, y139⟩ : S53), (⟨(([1] : List Int)), (([2] : List Int))⟩ : S53)] : List (S53)))) = some r := by first | (rw [hy139]; with_reducible exact H) | (have H2_ := (Option.bind_some _ _).symm.trans H; rw [hy139]; with_reducible exact H2_) | (have H2_ := (Option.bind_some _ _).symm.trans H; with_reducible exact H2_) | with_reducible exact H | (rw [hy139]; exact H) | exact H
  have Ny139 := Aside0.mk hy139
  clear hy139
  obtain ⟨y142, hy142⟩ : ∃ y_ : List Int, y_ = (([1] : List Int)) := ⟨_, rfl⟩
  replace H : (some (([(⟨y136, y139⟩ : S53), (⟨y142, (([2] : List Int))⟩ : S53)] : List (S53)))) = some r := by first | (rw [hy142]; with_reducible exact H) | (have H2_ := (Option.bind_some _ _).symm.trans H; rw [hy142]; with_reducible exact H2_) | (have H2_ := (Option.bind_some _ _).symm.trans H; with_reducible exact H2_) | with_reducible exact H | (rw [hy142]; exact H) | exact H
  have Ny142 := Aside0.mk hy142
  clear hy142
  obtain ⟨y145, hy145⟩ : ∃ y_ : List Int, y_ = (([2] : List Int)) := ⟨_, rfl⟩
  replace H : (some (([(⟨y136, y139⟩ : S53), (⟨y142, y145⟩ : S53)] : List (S53)))) = some r := by first | (rw [hy145]; with_reducible exact H) | (have H2_ := (Option.bind_some _ _).symm.trans H; rw [hy145]; with_reducible exact H2_) | (have H2_ := (Option.bind_some _ _).symm.trans H; with_reducible exact H2_) | with_reducible exact H | (rw [hy145]; exact H) | exact H
  have Ny145 := Aside0.mk hy145
  clear hy145
  obtain ⟨y148, hy148⟩ : ∃ y_ : List (S53), y_ = (([(⟨y136, y139⟩ : S53), (⟨y142, y145⟩ : S53)] : List (S53))) := ⟨_, rfl⟩
  replace H : (some y148) = some r := by first | (rw [hy148]; with_reducible exact H) | (have H2_ := (Option.bind_some _ _).symm.trans H; rw [hy148]; with_reducible exact H2_) | (have H2_ := (Option.bind_some _ _).symm.trans H; with_reducible exact H2_) | with_reducible exact H | (rw [hy148]; exact H) | exact H
  have Ny148 := Aside0.mk hy148
  clear hy148
  obtain rfl := Option.some.inj H
  go_enter Try.func52, Try.ntmps52
  go_wp2_with (first | ((with_reducible refine gate_dst (N := 1) rfl ?_); refine Kd.R_lit (Kd.int .i64) _ 3 ?hg (N := 1) ?hd (xs := ([0] : List Int)) (inner := [.int .i64 0]) (ok := fun _ => True) (okp := fun _ => True) ?hr ?hp (fun _ hk => hk) trivial (Below.refl _ _) (Nat.le_refl _) (by simp) ?_; (case hd => rfl); (case hg => rfl); (case hr => first | (go_simp; done) | (go_simp; rfl)); (case hp => exact (Reps.one (show Kd.M (Kd.int .i64) _ _ _ 0 [.int .i64 0] from rfl) (Reps.none _ _))); intro v137 w1 ho2 hb hg_ hnew_; clear hg_ hnew_; (first | rw [← Ny136.out] at ho2 | (simp only [Int.reduceToNat] at ho2; rw [← Ny136.out] at ho2)); have n0_ := Aside0.mk (Kd.R_lower (Kd.R_newM (M := fun k_ => (w.heap.size ≤ k_)) ho2 (below_size (by repeat (first | (with_reducible first | exact HB.out | apply below_alloc | apply pw_below_drewN | apply below_drew1) | exact HB.out))) (fun k_ h_ => h_)) (below_size (by repeat (first | (with_reducible first | exact HB.out | apply below_alloc | apply pw_below_drewN | apply below_drew1) | exact HB.out)))); have n1_ := Aside0.mk (below_step (by repeat (first | (with_reducible first | exact HB.out | apply below_alloc | apply pw_below_drewN | apply below_drew1) | exact HB.out)) hb); clear HB; have HO138 := n0_; have HB := n1_; clear n0_ n1_; clear hb ho2) | ((with_reducible refine gate_dst (N := 2) rfl ?_); refine Kd.R_lit (Kd.int .i64) _ 3 ?hg (N := 2) ?hd (xs := ([1] : List Int)) (inner := [.int .i64 1]) (ok := fun _ => True) (okp := fun _ => True) ?hr ?hp (fun _ hk => hk) trivial (Below.refl _ _) (Nat.le_refl _) (by simp) ?_; (case hd => rfl); (case hg => rfl); (case hr => first | (go_simp; done) | (go_simp; rfl)); (case hp => exact (Reps.one (show Kd.M (Kd.int .i64) _ _ _ 1 [.int .i64 1] from rfl) (Reps.none _ _))); intro v140 w3 ho4 hb hg_ hnew_; clear hg_ hnew_; (first | rw [← Ny139.out] at ho4 | (simp only [Int.reduceToNat] at ho4; rw [← Ny139.out] at ho4)); have n0_ := Aside0.mk (Kd.R_elder' (by (with_reducible repeat (first | apply Kd.R_alloc | apply Kd.R_drewN | apply Kd.R_drew)); exact HO138.out) (Kd.R_base ho4) hb); have n1_ := Aside0.mk (Kd.R_lower (Kd.R_new' (Kd.R_newM (M := fun k_ => (w.heap.size ≤ k_)) ho4 (below_size (by repeat (first | (with_reducible first | exact HB.out | apply below_alloc | apply pw_below_drewN | apply below_drew1) | exact HB.out))) (fun k_ h_ => h_)) (Kd.R_lt (by (with_reducible repeat (first | apply Kd.R_alloc | apply Kd.R_drewN | apply Kd.R_drew)); exact HO138.out))) (below_size (by repeat (first | (with_reducible first | exact HB.out | apply below_alloc | apply pw_below_drewN | apply below_drew1) | exact HB.out)))); have n2_ := Aside0.mk (below_step (by repeat (first | (with_reducible first | exact HB.out | apply below_alloc | apply pw_below_drewN | apply below_drew1) | exact HB.out)) hb); clear HO138; clear HB; have HO138 := n0_; have HO141 := n1_; have HB := n2_; clear n0_ n1_ n2_; clear hb ho4; obtain ⟨Ao5, co5, eo5⟩ := Kd.R_slice HO141.out; subst eo5; obtain ⟨Ao6, co6, eo6⟩ := Kd.R_slice HO138.out; subst eo6) | ((with_reducible refine gate_dst (N := 4) rfl ?_); refine Kd.R_lit (Kd.int .i64) _ 3 ?hg (N := 4) ?hd (xs := ([1] : List Int)) (inner := [.int .i64 1]) (ok := fun _ => True) (okp := fun _ => True) ?hr ?hp (fun _ hk => hk) trivial (Below.refl _ _) (Nat.le_refl _) (by simp) ?_; (case hd => rfl); (case hg => rfl); (case hr => first | (go_simp; done) | (go_simp; rfl)); (case hp => exact (Reps.one (show Kd.M (Kd.int .i64) _ _ _ 1 [.int .i64 1] from rfl) (Reps.none _ _))); intro v143 w7 ho8 hb hg_ hnew_; clear hg_ hnew_; (first | rw [← Ny142.out] at ho8 | (simp only [Int.reduceToNat] at ho8; rw [← Ny142.out] at ho8)); have n0_ := Aside0.mk (Kd.R_elder' (by (with_reducible repeat (first | apply Kd.R_alloc | apply Kd.R_drewN | apply Kd.R_drew)); exact HO138.out) (Kd.R_base ho8) hb); have n1_ := Aside0.mk (Kd.R_elder' (by (with_reducible repeat (first | apply Kd.R_alloc | apply Kd.R_drewN | apply Kd.R_drew)); exact HO141.out) (Kd.R_base ho8) hb); have n2_ := Aside0.mk (Kd.R_lower (Kd.R_new' (Kd.R_new' (Kd.R_newM (M := fun k_ => (w.heap.size ≤ k_)) ho8 (below_size (by repeat (first | (with_reducible first | exact HB.out | apply below_alloc | apply pw_below_drewN | apply below_drew1) | exact HB.out))) (fun k_ h_ => h_)) (Kd.R_lt (by (with_reducible repeat (first | apply Kd.R_alloc | apply Kd.R_drewN | apply Kd.R_drew)); exact HO138.out))) (Kd.R_lt (by (with_reducible repeat (first | apply Kd.R_alloc | apply Kd.R_drewN | apply Kd.R_drew)); exact HO141.out))) (below_size (by repeat (first | (with_reducible first | exact HB.out | apply below_alloc | apply pw_below_drewN | apply below_drew1) | exact HB.out)))); have n3_ := Aside0.mk (below_step (by repeat (first | (with_reducible first | exact HB.out | apply below_alloc | apply pw_below_drewN | apply below_drew1) | exact HB.out)) hb); clear HO138; clear HO141; clear HB; have HO138 := n0_; have HO141 := n1_; have HO144 := n2_; have HB := n3_; clear n0_ n1_ n2_ n3_; clear hb ho8) | ((with_reducible refine gate_dst (N := 5) rfl ?_); refine Kd.R_lit (Kd.int .i64) _ 3 ?hg (N := 5) ?hd (xs := ([2] : List Int)) (inner := [.int .i64 2]) (ok := fun _ => True) (okp := fun _ => True) ?hr ?hp (fun _ hk => hk) trivial (Below.refl _ _) (Nat.le_refl _) (by simp) ?_; (case hd => rfl); (case hg => rfl); (case hr => first | (go_simp; done) | (go_simp; rfl)); (case hp => exact (Reps.one (show Kd.M (Kd.int .i64) _ _ _ 2 [.int .i64 2] from rfl) (Reps.none _ _))); intro v146 w9 ho10 hb hg_ hnew_; clear hg_ hnew_; (first | rw [← Ny145.out] at ho10 | (simp only [Int.reduceToNat] at ho10; rw [← Ny145.out] at ho10)); have n0_ := Aside0.mk (Kd.R_elder' (by (with_reducible repeat (first | apply Kd.R_alloc | apply Kd.R_drewN | apply Kd.R_drew)); exact HO138.out) (Kd.R_base ho10) hb); have n1_ := Aside0.mk (Kd.R_elder' (by (with_reducible repeat (first | apply Kd.R_alloc | apply Kd.R_drewN | apply Kd.R_drew)); exact HO141.out) (Kd.R_base ho10) hb); have n2_ := Aside0.mk (Kd.R_elder' (by (with_reducible repeat (first | apply Kd.R_alloc | apply Kd.R_drewN | apply Kd.R_drew)); exact HO144.out) (Kd.R_base ho10) hb); have n3_ := Aside0.mk (Kd.R_lower (Kd.R_new' (Kd.R_new' (Kd.R_new' (Kd.R_newM (M := fun k_ => (w.heap.size ≤ k_)) ho10 (below_size (by repeat (first | (with_reducible first | exact HB.out | apply below_alloc | apply pw_below_drewN | apply below_drew1) | exact HB.out))) (fun k_ h_ => h_)) (Kd.R_lt (by (with_reducible repeat (first | apply Kd.R_alloc | apply Kd.R_drewN | apply Kd.R_drew)); exact HO138.out))) (Kd.R_lt (by (with_reducible repeat (first | apply Kd.R_alloc | apply Kd.R_drewN | apply Kd.R_drew)); exact HO141.out))) (Kd.R_lt (by (with_reducible repeat (first | apply Kd.R_alloc | apply Kd.R_drewN | apply Kd.R_drew)); exact HO144.out))) (below_size (by repeat (first | (with_reducible first | exact HB.out | apply below_alloc | apply pw_below_drewN | apply below_drew1) | exact HB.out)))); have n4_ := Aside0.mk (below_step (by repeat (first | (with_reducible first | exact HB.out | apply below_alloc | apply pw_below_drewN | apply below_drew1) | exact HB.out)) hb); clear HO138; clear HO141; clear HO144; clear HB; have HO138 := n0_; have HO141 := n1_; have HO144 := n2_; have HO147 := n3_; have HB := n4_; clear n0_ n1_ n2_ n3_ n4_; clear hb ho10; obtain ⟨Ao11, co11, eo11⟩ := Kd.R_slice HO147.out; subst eo11; obtain ⟨Ao12, co12, eo12⟩ := Kd.R_slice HO144.out; subst eo12) | ((with_reducible refine gate_dst (N := 7) rfl ?_); refine Kd.N_lit k53 _ 53 ?hg (N' := 7) ?hd (xs := ([(⟨y136, y139⟩ : S53), (⟨y142, y145⟩ : S53)] : List (S53))) (inner := [.slice Ao6 y136.length co6, .slice Ao5 y139.length co5, .slice Ao12 y142.length co12, .slice Ao11 y145.length co11]) (ok := (fun k_ => (w.heap.size ≤ k_))) (okp := (fun k_ => (w.heap.size ≤ k_))) ?hr ?hp (fun _ hk => hk) ((show ∀ k_, w9.heap.size ≤ k_ → (fun k_ => (w.heap.size ≤ k_)) k_ from fun k_ hk => (Nat.le_trans (below_size (by repeat (first | (with_reducible first | exact HB.out | apply below_alloc | apply pw_below_drewN | apply below_drew1) | exact HB.out))) hk)) _ (Nat.le_refl _)) (Below.refl _ _) (Nat.le_refl _) (by simp) ?_; (case hd => rfl); (case hg => rfl); (case hr => first | (go_simp; done) | (go_simp; rfl)); (case hp => exact (Reps.c2 (show Kd.FK k53 _ _ (⟨y136, y139⟩ : S53) [.slice Ao6 y136.length co6, .slice Ao5 y139.length co5] from (k53_mkF _ _ (⟨y136, y139⟩ : S53) (Kd.R_reads' (Kd.R_mono (ok' := (fun k_ => (w.heap.size ≤ k_))) (HO138.out) (fun k_ hk => hk.1.1.1.1))).2.1 (Kd.R_F (Kd.R_mono (ok' := (fun k_ => (w.heap.size ≤ k_))) (HO138.out) (fun k_ hk => hk.1.1.1.1))) (Kd.R_reads' (Kd.R_mono (ok' := (fun k_ => (w.heap.size ≤ k_))) (HO141.out) (fun k_ hk => hk.1.1.1.1))).2.1 (Kd.R_F (Kd.R_mono (ok' := (fun k_ => (w.heap.size ≤ k_))) (HO141.out) (fun k_ hk => hk.1.1.1.1))))) (Reps.c2 (show Kd.FK k53 _ _ (⟨y142, y145⟩ : S53) [.slice Ao12 y142.length co12, .slice Ao11 y145.length co11] from (k53_mkF _ _ (⟨y142, y145⟩ : S53) (Kd.R_reads' (Kd.R_mono (ok' := (fun k_ => (w.heap.size ≤ k_))) (HO144.out) (fun k_ hk => hk.1.1.1.1))).2.1 (Kd.R_F (Kd.R_mono (ok' := (fun k_ => (w.heap.size ≤ k_))) (HO144.out) (fun k_ hk => hk.1.1.1.1))) (Kd.R_reads' (Kd.R_mono (ok' := (fun k_ => (w.heap.size ≤ k_))) (HO147.out) (fun k_ hk => hk.1.1.1.1))).2.1 (Kd.R_F (Kd.R_mono (ok' := (fun k_ => (w.heap.size ≤ k_))) (HO147.out) (fun k_ hk => hk.1.1.1.1))))) (Reps.none _ _)))); intro v149 w13 ho14 hb hg_ hnew_; clear hg_ hnew_; (first | rw [← Ny148.out] at ho14 | (simp only [Int.reduceToNat] at ho14; rw [← Ny148.out] at ho14)); have n0_ := Aside0.mk (Kd.N_lower ho14 (below_size (by repeat (first | (with_reducible first | exact HB.out | apply below_alloc | apply pw_below_drewN | apply below_drew1) | exact HB.out)))); have n1_ := Aside0.mk (below_step (by repeat (first | (with_reducible first | exact HB.out | apply below_alloc | apply pw_below_drewN | apply below_drew1) | exact HB.out)) hb); clear HB; clear HO138; clear HO141; clear HO144; clear HO147; have HO150 := n0_; have HB := n1_; clear n0_ n1_; clear hb ho14))
  go_ret
  exact ⟨_, by first | rfl | (simp [errW_none, errW_some] <;> rfl) | (simp [*, errW_none, errW_some] <;> rfl), by (with_reducible repeat (first | apply Kd.N_alloc | apply Kd.N_drewN | apply Kd.N_drew)); exact HO150.out, by repeat (first | (with_reducible first | exact HB.out | apply below_alloc | apply pw_below_drewN | apply below_drew1) | exact HB.out)⟩

end Go.Proofs.Ytdbeochifofdoaa.X
end

section
-- Written by a program of this session (wip/hook.py, which runs the kit's print.py with contracts proved by hand). Not trusted: Lean checks it.
namespace Go.Proofs.Ytdbeochifofdoaa.X
open Go.RowKit Go.Proofs.YtdbeochifofdoaaW.PrintWords Go.Proofs.YtdbeochifofdoaaW.PrintLast Go.Proofs.YtdbeochifofdoaaW.PrintMore
attribute [local go_sem] max2_int min2_int max_two min_two max_three min_three max_four min_four   -- for this text's walks alone
set_option linter.unusedVariables false
set_option linter.unusedSimpArgs false

/-! ### verditerlaw06_known: function 25 -/
def verditerlaw06_known.f (k : Nat)  : Option (Bool) := (verditerlaw06_example.f).bind fun t156 => ((weigh_Marks.f 3 t156).bind fun bt159 => ((verditerlaw06_example.f).bind fun t163 => ((weigh_Tells.f 3 t163).bind fun bt166 => ((weigh_Most.f k 2).bind fun bt168 => (if bt159.2 = 0 then ((verditerref06_SameLists.f k bt159.1 (([(([1, 0] : List Int)), (([(-1), 1] : List Int)), (([0, (-1)] : List Int))] : List (List Int)))).bind fun t182 => (if t182 = true then (if bt166.2 = 0 then (if bt166.1 = true then (if bt168.2 = 0 then (some (bt168.1 == 3)) else (some false)) else (some false)) else (some false)) else (some false))) else (some false))))))
theorem verditerlaw06_known.mono : ∀ k, LeO (verditerlaw06_known.f k ) (verditerlaw06_known.f (k + 1) ) := by
  intro  k
  unfold verditerlaw06_known.f
  repeat' first
      | (with_reducible exact verditerref06_SameLists.mono _ _ _)
      | (with_reducible exact weigh_Most.mono _ _)
      | (with_reducible exact LeO.refl _)
      | (with_reducible exact LeO.none _)
      | (with_reducible refine LeO.ite ?_ ?_)
      | (with_reducible refine LeO.bind ?_ (fun _ => ?_))
      | exact verditerref06_SameLists.mono _ _ _
      | exact weigh_Most.mono _ _
      | exact LeO.none _
      | refine LeO.ite ?_ ?_
      | refine LeO.bind ?_ (fun _ => ?_)
set_option maxRecDepth 100000 in
theorem verditerlaw06_known.is_true : verditerlaw06_known.f 20 = some true := by decide +kernel
theorem verditerlaw06_known.go_on {k : Nat} {r : Bool} (h : verditerlaw06_known.f k = some r) : ∀ d, verditerlaw06_known.f (k + d) = some r
  | 0 => h
  | d + 1 => verditerlaw06_known.mono (k + d) _ (verditerlaw06_known.go_on h d)
theorem verditerlaw06_known.only {k : Nat} {r : Bool} (h : verditerlaw06_known.f k = some r) : r = true := by
  have h1 := verditerlaw06_known.go_on h 20
  have h2 := verditerlaw06_known.go_on verditerlaw06_known.is_true k
  rw [Nat.add_comm, h1] at h2
  exact Option.some.inj h2
set_option maxHeartbeats 8000000 in
set_option maxRecDepth 100000 in
theorem verditerlaw06_known.calls (k : Nat)  (r : Bool) (w : World) (h : verditerlaw06_known.f k  = some r) :
    Calls Try.prog 25 #[] w fun e w' => e = .returned (.bool r) ∧ Below w.heap.size w w' := by
  have hT : r = true := verditerlaw06_known.only h
  have HB := Aside0.mk (Below.refl w.heap.size w)
  have H : ((verditerlaw06_example.f).bind fun t156 => ((weigh_Marks.f 3 t156).bind fun bt159 => ((verditerlaw06_example.f).bind fun t163 => ((weigh_Tells.f 3 t163).bind fun bt166 => ((weigh_Most.f k 2).bind fun bt168 => (if bt159.2 = 0 then ((verditerref06_SameLists.f k bt159.1 (([(([1, 0] : List Int)), (([(-1), 1] : List Int)), (([0, (-1)] : List Int))] : List (List Int)))).bind fun t182 => (if t182 = true then (if bt166.2 = 0 then (if bt166.1 = true then (if bt168.2 = 0 then (some (bt168.1 == 3)) else (some false)) else (some false)) else (some false)) else (some false))) else (some false))))))) = some r := h
  clear h
  replace H := Option.bind_eq_some_iff.mp H
  obtain ⟨t156, A10, H⟩ := H
  replace H : ((weigh_Marks.f 3 t156).bind fun bt159 => ((verditerlaw06_example.f).bind fun t163 => ((weigh_Tells.f 3 t163).bind fun bt166 => ((weigh_Most.f k 2).bind fun bt168 => (if bt159.2 = 0 then ((verditerref06_SameLists.f k bt159.1 (([(([1, 0] : List Int)), (([(-1), 1] : List Int)), (([0, (-1)] : List Int))] : List (List Int)))).bind fun t182 => (if t182 = true then (if bt166.2 = 0 then (if bt166.1 = true then (if bt168.2 = 0 then (some (bt168.1 == 3)) else (some false)) else (some false)) else (some false)) else (some false))) else (some false)))))) = some r := H
  have A1 := Aside0.mk A10
  clear A10
  replace H := Option.bind_eq_some_iff.mp H
  obtain ⟨⟨t159, t162⟩, A20, H⟩ := H
  replace H : ((verditerlaw06_example.f).bind fun t163 => ((weigh_Tells.f 3 t163).bind fun bt166 => ((weigh_Most.f k 2).bind fun bt168 => (if t162 = 0 then ((verditerref06_SameLists.f k t159 (([(([1, 0] : List Int)), (([(-1), 1] : List Int)), (([0, (-1)] : List Int))] : List (List Int)))).bind fun t182 => (if t182 = true then (if bt166.2 = 0 then (if bt166.1 = true then (if bt168.2 = 0 then (some (bt168.1 == 3)) else (some false)) else (some false)) else (some false)) else (some false))) else (some false))))) = some r := H
  have A2 := Aside0.mk A20
  clear A20
  replace H := Option.bind_eq_some_iff.mp H
  obtain ⟨t163, A30, H⟩ := H
  replace H : ((weigh_Tells.f 3 t163).bind fun bt166 => ((weigh_Most.f k 2).bind fun bt168 => (if t162 = 0 then ((verditerref06_SameLists.f k t159 (([(([1, 0] : List Int)), (([(-1), 1] : List Int)), (([0, (-1)] : List Int))] : List (List Int)))).bind fun t182 => (if t182 = true then (if bt166.2 = 0 then (if bt166.1 = true then (if bt168.2 = 0 then (some (bt168.1 == 3)) else (some false)) else (some false)) else (some false)) else (some false))) else (some false)))) = some r := H
  have A3 := Aside0.mk A30
  clear A30
  replace H := Option.bind_eq_some_iff.mp H
  obtain ⟨⟨t166, t167⟩, A40, H⟩ := H
  replace H : ((weigh_Most.f k 2).bind fun bt168 => (if t162 = 0 then ((verditerref06_SameLists.f k t159 (([(([1, 0] : List Int)), (([(-1), 1] : List Int)), (([0, (-1)] : List Int))] : List (List Int)))).bind fun t182 => (if t182 = true then (if t167 = 0 then (if t166 = true then (if bt168.2 = 0 then (some (bt168.1 == 3)) else (some false)) else (some false)) else (some false)) else (some false))) else (some false))) = some r := H
  have A4 := Aside0.mk A40
  clear A40
  replace H := Option.bind_eq_some_iff.mp H
  obtain ⟨⟨t168, t169⟩, A50, H⟩ := H
  replace H : (if t162 = 0 then ((verditerref06_SameLists.f k t159 (([(([1, 0] : List Int)), (([(-1), 1] : List Int)), (([0, (-1)] : List Int))] : List (List Int)))).bind fun t182 => (if t182 = true then (if t167 = 0 then (if t166 = true then (if t169 = 0 then (some (t168 == 3)) else (some false)) else (some false)) else (some false)) else (some false))) else (some false)) = some r := H
  have A5 := Aside0.mk A50
  clear A50
  by_cases c6 : t162 = 0
  · rw [if_pos c6] at H
    have c6b0 : (t162 == 0) = true := beq_iff_eq.mpr c6
    have c6b1 : (t162 != 0) = false := bne_eq_false_iff_eq.mpr c6
    clear c6
    obtain ⟨y170, hy170⟩ : ∃ y_ : List Int, y_ = (([1, 0] : List Int)) := ⟨_, rfl⟩
    replace H : ((verditerref06_SameLists.f k t159 (([y170, (([(-1), 1] : List Int)), (([0, (-1)] : List Int))] : List (List Int)))).bind fun t182 => (if t182 = true then (if t167 = 0 then (if t166 = true then (if t169 = 0 then (some (t168 == 3)) else (some false)) else (some false)) else (some false)) else (some false))) = some r := by first | (rw [hy170]; with_reducible exact H) | (have H2_ := (Option.bind_some _ _).symm.trans H; rw [hy170]; with_reducible exact H2_) | (have H2_ := (Option.bind_some _ _).symm.trans H; with_reducible exact H2_) | with_reducible exact H | (rw [hy170]; exact H) | exact H
    have Ny170 := Aside0.mk hy170
    clear hy170
    obtain ⟨y173, hy173⟩ : ∃ y_ : List Int, y_ = (([(-1), 1] : List Int)) := ⟨_, rfl⟩
    replace H : ((verditerref06_SameLists.f k t159 (([y170, y173, (([0, (-1)] : List Int))] : List (List Int)))).bind fun t182 => (if t182 = true then (if t167 = 0 then (if t166 = true then (if t169 = 0 then (some (t168 == 3)) else (some false)) else (some false)) else (some false)) else (some false))) = some r := by first | (rw [hy173]; with_reducible exact H) | (have H2_ := (Option.bind_some _ _).symm.trans H; rw [hy173]; with_reducible exact H2_) | (have H2_ := (Option.bind_some _ _).symm.trans H; with_reducible exact H2_) | with_reducible exact H | (rw [hy173]; exact H) | exact H
    have Ny173 := Aside0.mk hy173
    clear hy173
    obtain ⟨y176, hy176⟩ : ∃ y_ : List Int, y_ = (([0, (-1)] : List Int)) := ⟨_, rfl⟩
    replace H : ((verditerref06_SameLists.f k t159 (([y170, y173, y176] : List (List Int)))).bind fun t182 => (if t182 = true then (if t167 = 0 then (if t166 = true then (if t169 = 0 then (some (t168 == 3)) else (some false)) else (some false)) else (some false)) else (some false))) = some r := by first | (rw [hy176]; with_reducible exact H) | (have H2_ := (Option.bind_some _ _).symm.trans H; rw [hy176]; with_reducible exact H2_) | (have H2_ := (Option.bind_some _ _).symm.trans H; with_reducible exact H2_) | with_reducible exact H | (rw [hy176]; exact H) | exact H
    have Ny176 := Aside0.mk hy176
    clear hy176
    obtain ⟨y179, hy179⟩ : ∃ y_ : List (List Int), y_ = (([y170, y173, y176] : List (List Int))) := ⟨_, rfl⟩
    replace H : ((verditerref06_SameLists.f k t159 y179).bind fun t182 => (if t182 = true then (if t167 = 0 then (if t166 = true then (if t169 = 0 then (some (t168 == 3)) else (some false)) else (some false)) else (some false)) else (some false))) = some r := by first | (rw [hy179]; with_reducible exact H) | (have H2_ := (Option.bind_some _ _).symm.trans H; rw [hy179]; with_reducible exact H2_) | (have H2_ := (Option.bind_some _ _).symm.trans H; with_reducible exact H2_) | with_reducible exact H | (rw [hy179]; exact H) | exact H
    have Ny179 := Aside0.mk hy179
    clear hy179
    replace H := Option.bind_eq_some_iff.mp H
    obtain ⟨t182, A70, H⟩ := H
    replace H : (if t182 = true then (if t167 = 0 then (if t166 = true then (if t169 = 0 then (some (t168 == 3)) else (some false)) else (some false)) else (some false)) else (some false)) = some r := H
    have A7 := Aside0.mk A70
    clear A70
    by_cases c8 : t182 = true
    · subst c8
      have H1 : (if t167 = 0 then (if t166 = true then (if t169 = 0 then (some (t168 == 3)) else (some false)) else (some false)) else (some false)) = some r := by rw [if_pos rfl] at H; exact H
      clear H
      have H := H1
      clear H1
      by_cases c9 : t167 = 0
      · rw [if_pos c9] at H
        have c9b0 : (t167 == 0) = true := beq_iff_eq.mpr c9
        have c9b1 : (t167 != 0) = false := bne_eq_false_iff_eq.mpr c9
        clear c9
        by_cases c10 : t166 = true
        · subst c10
          have H1 : (if t169 = 0 then (some (t168 == 3)) else (some false)) = some r := by rw [if_pos rfl] at H; exact H
          clear H
          have H := H1
          clear H1
          by_cases c11 : t169 = 0
          · rw [if_pos c11] at H
            have c11b0 : (t169 == 0) = true := beq_iff_eq.mpr c11
            have c11b1 : (t169 != 0) = false := bne_eq_false_iff_eq.mpr c11
            clear c11
            obtain rfl := Option.some.inj H
            go_enter Try.func25, Try.ntmps25
            go_wp2_with (first | ((with_reducible refine gate_callee (f := 52) rfl ?_); refine goesL_ (some 8) rfl rfl Try.func52 (by kernel_rfl) rfl #[] rfl (by (try simp only [List.map_toArray, List.map_cons, List.map_nil]); first | done | rfl | (simp only [List.length_drop, List.length_take]; rfl)) ?_; (with_reducible refine (verditerlaw06_example.calls  t156 _ A1.out).mono ?_); rintro e w12 ⟨v157, rfl, ho0, hb⟩; refine ⟨_, rfl, ?_⟩; have n0_ := Aside0.mk (Kd.N_lower (Kd.N_mono (ok' := fun k_ => True) ho0 (fun k_ hk_ => trivial)) (below_size (by repeat (first | (with_reducible first | exact HB.out | apply below_alloc | apply pw_below_drewN | apply below_drew1) | exact HB.out)))); have n1_ := Aside0.mk (below_step (by repeat (first | (with_reducible first | exact HB.out | apply below_alloc | apply pw_below_drewN | apply below_drew1) | exact HB.out)) hb); clear HB; have HO158 := n0_; have HB := n1_; clear n0_ n1_; (try clear hb); (try clear hb2); (try clear hk); (try clear hi); (try clear ho0); obtain ⟨Ao13, co13, eo13⟩ := Kd.N_slice HO158.out; subst eo13) | ((with_reducible refine gate_callee (f := 51) rfl ?_); refine goesL_ (some 9) rfl rfl Try.func51 (by kernel_rfl) rfl #[.int .i64 3, .slice Ao13 t156.length co13] rfl (by (try simp only [List.map_toArray, List.map_cons, List.map_nil]); first | done | rfl | (simp only [List.length_drop, List.length_take]; rfl)) ?_; (with_reducible refine (weigh_Marks.calls 3 _ _ t156 t159 t162 _ ?side1 ?side2 A2.out).mono ?_); (case side1 => repeat (first | exact (Kd.N_reads' HO158.out).2.2 | (with_reducible refine Kd.C_alloc ?_ _) | (with_reducible refine Kd.C_drewN ?_ _) | (with_reducible refine Kd.C_drew ?_))); (case side2 => exact (Kd.N_reads' HO158.out).2.1); rintro e w14 ⟨v160, rfl, ho0, hb⟩; refine ⟨_, rfl, ?_⟩; have n0_ := Aside0.mk (Kd.N_elder' (by (with_reducible repeat (first | apply Kd.N_alloc | apply Kd.N_drewN | apply Kd.N_drew)); exact HO158.out) (Kd.N_base ho0) hb); have n1_ := Aside0.mk (Kd.N_lower (Kd.N_mono (ok' := fun k_ => some k_ ≠ (.slice Ao13 t156.length co13 : Value).ownBlock) ho0 (fun k_ hk_ => (Kd.fresh' (Kd.N_lt (by (with_reducible repeat (first | apply Kd.N_alloc | apply Kd.N_drewN | apply Kd.N_drew)); exact HO158.out)) k_ hk_))) (below_size (by repeat (first | (with_reducible first | exact HB.out | apply below_alloc | apply pw_below_drewN | apply below_drew1) | exact HB.out)))); have n2_ := Aside0.mk (below_step (by repeat (first | (with_reducible first | exact HB.out | apply below_alloc | apply pw_below_drewN | apply below_drew1) | exact HB.out)) hb); clear HO158; clear HB; have HO158 := n0_; have HO161 := n1_; have HB := n2_; clear n0_ n1_ n2_; (try clear hb); (try clear hb2); (try clear hk); (try clear hi); (try clear ho0)) | ((with_reducible refine gate_callee (f := 52) rfl ?_); refine goesL_ (some 13) rfl rfl Try.func52 (by kernel_rfl) rfl #[] rfl (by (try simp only [List.map_toArray, List.map_cons, List.map_nil]); first | done | rfl | (simp only [List.length_drop, List.length_take]; rfl)) ?_; (with_reducible refine (verditerlaw06_example.calls  t163 _ A3.out).mono ?_); rintro e w15 ⟨v164, rfl, ho0, hb⟩; refine ⟨_, rfl, ?_⟩; have n0_ := Aside0.mk (Kd.N_elder' (by (with_reducible repeat (first | apply Kd.N_alloc | apply Kd.N_drewN | apply Kd.N_drew)); exact HO158.out) (Kd.N_base ho0) hb); have n1_ := Aside0.mk (Kd.N_elder' (by (with_reducible repeat (first | apply Kd.N_alloc | apply Kd.N_drewN | apply Kd.N_drew)); exact HO161.out) (Kd.N_base ho0) hb); have n2_ := Aside0.mk (Kd.N_lower (Kd.N_mono (ok' := fun k_ => some k_ ≠ (.slice Ao13 t156.length co13 : Value).ownBlock ∧ some k_ ≠ (v160 : Value).ownBlock) ho0 (fun k_ hk_ => ⟨(Kd.fresh' (Kd.N_lt (by (with_reducible repeat (first | apply Kd.N_alloc | apply Kd.N_drewN | apply Kd.N_drew)); exact HO158.out)) k_ hk_), (Kd.fresh' (Kd.N_lt (by (with_reducible repeat (first | apply Kd.N_alloc | apply Kd.N_drewN | apply Kd.N_drew)); exact HO161.out)) k_ hk_)⟩)) (below_size (by repeat (first | (with_reducible first | exact HB.out | apply below_alloc | apply pw_below_drewN | apply below_drew1) | exact HB.out)))); have n3_ := Aside0.mk (below_step (by repeat (first | (with_reducible first | exact HB.out | apply below_alloc | apply pw_below_drewN | apply below_drew1) | exact HB.out)) hb); clear HO158; clear HO161; clear HB; have HO158 := n0_; have HO161 := n1_; have HO165 := n2_; have HB := n3_; clear n0_ n1_ n2_ n3_; (try clear hb); (try clear hb2); (try clear hk); (try clear hi); (try clear ho0); obtain ⟨Ao16, co16, eo16⟩ := Kd.N_slice HO165.out; subst eo16) | ((with_reducible refine gate_callee (f := 44) rfl ?_); refine goesL_ (some 14) rfl rfl Try.func44 (by kernel_rfl) rfl #[.int .i64 3, .slice Ao16 t163.length co16] rfl (by (try simp only [List.map_toArray, List.map_cons, List.map_nil]); first | done | rfl | (simp only [List.length_drop, List.length_take]; rfl)) ?_; (with_reducible refine (weigh_Tells.calls 3 _ _ t163 true t167 _ ?side1 ?side2 A4.out).mono ?_); (case side1 => repeat (first | exact (Kd.N_reads' HO165.out).2.2 | (with_reducible refine Kd.C_alloc ?_ _) | (with_reducible refine Kd.C_drewN ?_ _) | (with_reducible refine Kd.C_drew ?_))); (case side2 => exact (Kd.N_reads' HO165.out).2.1); rintro e w17 ⟨rfl, hb⟩; refine ⟨_, rfl, ?_⟩; have n0_ := Aside0.mk (Kd.N_below (by (with_reducible repeat (first | apply Kd.N_alloc | apply Kd.N_drewN | apply Kd.N_drew)); exact HO158.out) hb); have n1_ := Aside0.mk (Kd.N_below (by (with_reducible repeat (first | apply Kd.N_alloc | apply Kd.N_drewN | apply Kd.N_drew)); exact HO161.out) hb); have n2_ := Aside0.mk (Kd.N_below (by (with_reducible repeat (first | apply Kd.N_alloc | apply Kd.N_drewN | apply Kd.N_drew)); exact HO165.out) hb); have n3_ := Aside0.mk (below_step (by repeat (first | (with_reducible first | exact HB.out | apply below_alloc | apply pw_below_drewN | apply below_drew1) | exact HB.out)) hb); clear HO158; clear HO161; clear HO165; clear HB; have HO158 := n0_; have HO161 := n1_; have HO165 := n2_; have HB := n3_; clear n0_ n1_ n2_ n3_; (try clear hb); (try clear hb2); (try clear hk); (try clear hi)) | ((with_reducible refine gate_callee (f := 23) rfl ?_); refine goesL_ (some 18) rfl rfl Try.func23 (by kernel_rfl) rfl #[.int .i64 2] rfl (by (try simp only [List.map_toArray, List.map_cons, List.map_nil]); first | done | rfl | (simp only [List.length_drop, List.length_take]; rfl)) ?_; (with_reducible refine (weigh_Most.calls k 2 t168 t169 _ A5.out).mono ?_); rintro e w18 ⟨rfl, hb⟩; refine ⟨_, rfl, ?_⟩; have n0_ := Aside0.mk (Kd.N_below (by (with_reducible repeat (first | apply Kd.N_alloc | apply Kd.N_drewN | apply Kd.N_drew)); exact HO158.out) hb); have n1_ := Aside0.mk (Kd.N_below (by (with_reducible repeat (first | apply Kd.N_alloc | apply Kd.N_drewN | apply Kd.N_drew)); exact HO161.out) hb); have n2_ := Aside0.mk (Kd.N_below (by (with_reducible repeat (first | apply Kd.N_alloc | apply Kd.N_drewN | apply Kd.N_drew)); exact HO165.out) hb); have n3_ := Aside0.mk (below_step (by repeat (first | (with_reducible first | exact HB.out | apply below_alloc | apply pw_below_drewN | apply below_drew1) | exact HB.out)) hb); clear HO158; clear HO161; clear HO165; clear HB; have HO158 := n0_; have HO161 := n1_; have HO165 := n2_; have HB := n3_; clear n0_ n1_ n2_ n3_; (try clear hb); (try clear hb2); (try clear hk); (try clear hi)) | ((with_reducible refine gate_dst (N := 25) rfl ?_); (try (refine gate_guard (by rfl) ?_; dsimp only)); refine Kd.R_lit (Kd.int .i64) _ 3 ?hg (N := 25) ?hd (xs := ([1, 0] : List Int)) (inner := [.int .i64 1, .int .i64 0]) (ok := fun _ => True) (okp := fun _ => True) ?hr ?hp (fun _ hk => hk) trivial (Below.refl _ _) (Nat.le_refl _) (by simp) ?_; (case hd => rfl); (case hg => rfl); (case hr => first | (go_simp; done) | (go_simp; rfl)); (case hp => exact (Reps.one (show Kd.M (Kd.int .i64) _ _ _ 1 [.int .i64 1] from rfl) (Reps.one (show Kd.M (Kd.int .i64) _ _ _ 0 [.int .i64 0] from rfl) (Reps.none _ _)))); intro v171 w19 ho20 hb hg_ hnew_; clear hg_ hnew_; (first | rw [← Ny170.out] at ho20 | (simp only [Int.reduceToNat] at ho20; rw [← Ny170.out] at ho20)); have n0_ := Aside0.mk (Kd.N_elder' (by (with_reducible repeat (first | apply Kd.N_alloc | apply Kd.N_drewN | apply Kd.N_drew)); exact HO158.out) (Kd.R_base ho20) hb); have n1_ := Aside0.mk (Kd.N_elder' (by (with_reducible repeat (first | apply Kd.N_alloc | apply Kd.N_drewN | apply Kd.N_drew)); exact HO161.out) (Kd.R_base ho20) hb); have n2_ := Aside0.mk (Kd.N_elder' (by (with_reducible repeat (first | apply Kd.N_alloc | apply Kd.N_drewN | apply Kd.N_drew)); exact HO165.out) (Kd.R_base ho20) hb); have n3_ := Aside0.mk (Kd.R_lower ho20 (below_size (by repeat (first | (with_reducible first | exact HB.out | apply below_alloc | apply pw_below_drewN | apply below_drew1) | exact HB.out)))); have n4_ := Aside0.mk (below_step (by repeat (first | (with_reducible first | exact HB.out | apply below_alloc | apply pw_below_drewN | apply below_drew1) | exact HB.out)) hb); clear HO158; clear HO161; clear HO165; clear HB; have HO158 := n0_; have HO161 := n1_; have HO165 := n2_; have HO172 := n3_; have HB := n4_; clear n0_ n1_ n2_ n3_ n4_; clear hb ho20) | ((with_reducible refine gate_dst (N := 26) rfl ?_); (try (refine gate_guard (by rfl) ?_; dsimp only)); refine Kd.R_lit (Kd.int .i64) _ 3 ?hg (N := 26) ?hd (xs := ([(-1), 1] : List Int)) (inner := [.int .i64 (-1), .int .i64 1]) (ok := fun _ => True) (okp := fun _ => True) ?hr ?hp (fun _ hk => hk) trivial (Below.refl _ _) (Nat.le_refl _) (by simp) ?_; (case hd => rfl); (case hg => rfl); (case hr => first | (go_simp; done) | (go_simp; rfl)); (case hp => exact (Reps.one (show Kd.M (Kd.int .i64) _ _ _ (-1) [.int .i64 (-1)] from rfl) (Reps.one (show Kd.M (Kd.int .i64) _ _ _ 1 [.int .i64 1] from rfl) (Reps.none _ _)))); intro v174 w21 ho22 hb hg_ hnew_; clear hg_ hnew_; (first | rw [← Ny173.out] at ho22 | (simp only [Int.reduceToNat] at ho22; rw [← Ny173.out] at ho22)); have n0_ := Aside0.mk (Kd.N_elder' (by (with_reducible repeat (first | apply Kd.N_alloc | apply Kd.N_drewN | apply Kd.N_drew)); exact HO158.out) (Kd.R_base ho22) hb); have n1_ := Aside0.mk (Kd.N_elder' (by (with_reducible repeat (first | apply Kd.N_alloc | apply Kd.N_drewN | apply Kd.N_drew)); exact HO161.out) (Kd.R_base ho22) hb); have n2_ := Aside0.mk (Kd.N_elder' (by (with_reducible repeat (first | apply Kd.N_alloc | apply Kd.N_drewN | apply Kd.N_drew)); exact HO165.out) (Kd.R_base ho22) hb); have n3_ := Aside0.mk (Kd.R_elder' (by (with_reducible repeat (first | apply Kd.R_alloc | apply Kd.R_drewN | apply Kd.R_drew)); exact HO172.out) (Kd.R_base ho22) hb); have n4_ := Aside0.mk (Kd.R_lower (Kd.R_new' ho22 (Kd.R_lt (by (with_reducible repeat (first | apply Kd.R_alloc | apply Kd.R_drewN | apply Kd.R_drew)); exact HO172.out))) (below_size (by repeat (first | (with_reducible first | exact HB.out | apply below_alloc | apply pw_below_drewN | apply below_drew1) | exact HB.out)))); have n5_ := Aside0.mk (below_step (by repeat (first | (with_reducible first | exact HB.out | apply below_alloc | apply pw_below_drewN | apply below_drew1) | exact HB.out)) hb); clear HO158; clear HO161; clear HO165; clear HO172; clear HB; have HO158 := n0_; have HO161 := n1_; have HO165 := n2_; have HO172 := n3_; have HO175 := n4_; have HB := n5_; clear n0_ n1_ n2_ n3_ n4_ n5_; clear hb ho22) | ((with_reducible refine gate_dst (N := 27) rfl ?_); (try (refine gate_guard (by rfl) ?_; dsimp only)); refine Kd.R_lit (Kd.int .i64) _ 3 ?hg (N := 27) ?hd (xs := ([0, (-1)] : List Int)) (inner := [.int .i64 0, .int .i64 (-1)]) (ok := fun _ => True) (okp := fun _ => True) ?hr ?hp (fun _ hk => hk) trivial (Below.refl _ _) (Nat.le_refl _) (by simp) ?_; (case hd => rfl); (case hg => rfl); (case hr => first | (go_simp; done) | (go_simp; rfl)); (case hp => exact (Reps.one (show Kd.M (Kd.int .i64) _ _ _ 0 [.int .i64 0] from rfl) (Reps.one (show Kd.M (Kd.int .i64) _ _ _ (-1) [.int .i64 (-1)] from rfl) (Reps.none _ _)))); intro v177 w23 ho24 hb hg_ hnew_; clear hg_ hnew_; (first | rw [← Ny176.out] at ho24 | (simp only [Int.reduceToNat] at ho24; rw [← Ny176.out] at ho24)); have n0_ := Aside0.mk (Kd.N_elder' (by (with_reducible repeat (first | apply Kd.N_alloc | apply Kd.N_drewN | apply Kd.N_drew)); exact HO158.out) (Kd.R_base ho24) hb); have n1_ := Aside0.mk (Kd.N_elder' (by (with_reducible repeat (first | apply Kd.N_alloc | apply Kd.N_drewN | apply Kd.N_drew)); exact HO161.out) (Kd.R_base ho24) hb); have n2_ := Aside0.mk (Kd.N_elder' (by (with_reducible repeat (first | apply Kd.N_alloc | apply Kd.N_drewN | apply Kd.N_drew)); exact HO165.out) (Kd.R_base ho24) hb); have n3_ := Aside0.mk (Kd.R_elder' (by (with_reducible repeat (first | apply Kd.R_alloc | apply Kd.R_drewN | apply Kd.R_drew)); exact HO172.out) (Kd.R_base ho24) hb); have n4_ := Aside0.mk (Kd.R_elder' (by (with_reducible repeat (first | apply Kd.R_alloc | apply Kd.R_drewN | apply Kd.R_drew)); exact HO175.out) (Kd.R_base ho24) hb); have n5_ := Aside0.mk (Kd.R_lower (Kd.R_new' (Kd.R_new' ho24 (Kd.R_lt (by (with_reducible repeat (first | apply Kd.R_alloc | apply Kd.R_drewN | apply Kd.R_drew)); exact HO172.out))) (Kd.R_lt (by (with_reducible repeat (first | apply Kd.R_alloc | apply Kd.R_drewN | apply Kd.R_drew)); exact HO175.out))) (below_size (by repeat (first | (with_reducible first | exact HB.out | apply below_alloc | apply pw_below_drewN | apply below_drew1) | exact HB.out)))); have n6_ := Aside0.mk (below_step (by repeat (first | (with_reducible first | exact HB.out | apply below_alloc | apply pw_below_drewN | apply below_drew1) | exact HB.out)) hb); clear HO158; clear HO161; clear HO165; clear HO172; clear HO175; clear HB; have HO158 := n0_; have HO161 := n1_; have HO165 := n2_; have HO172 := n3_; have HO175 := n4_; have HO178 := n5_; have HB := n6_; clear n0_ n1_ n2_ n3_ n4_ n5_ n6_; clear hb ho24; obtain ⟨Ao25, co25, eo25⟩ := Kd.R_slice HO172.out; subst eo25; obtain ⟨Ao26, co26, eo26⟩ := Kd.R_slice HO175.out; subst eo26; obtain ⟨Ao27, co27, eo27⟩ := Kd.R_slice HO178.out; subst eo27) | ((with_reducible refine gate_dst (N := 28) rfl ?_); (try (refine gate_guard (by rfl) ?_; dsimp only)); refine Kd.N_lit (Kd.slice 3 (Kd.int .i64)) _ 43 ?hg (N' := 28) ?hd (xs := ([y170, y173, y176] : List (List Int))) (inner := [.slice Ao25 y170.length co25, .slice Ao26 y173.length co26, .slice Ao27 y176.length co27]) (ok := (fun k_ => some k_ ≠ (.slice Ao13 t156.length co13 : Value).ownBlock ∧ some k_ ≠ (v160 : Value).ownBlock ∧ some k_ ≠ (.slice Ao16 t163.length co16 : Value).ownBlock)) (okp := (fun k_ => some k_ ≠ (.slice Ao13 t156.length co13 : Value).ownBlock ∧ some k_ ≠ (v160 : Value).ownBlock ∧ some k_ ≠ (.slice Ao16 t163.length co16 : Value).ownBlock)) ?hr ?hp (fun _ hk => hk) ((show ∀ k_, w23.heap.size ≤ k_ → (fun k_ => some k_ ≠ (.slice Ao13 t156.length co13 : Value).ownBlock ∧ some k_ ≠ (v160 : Value).ownBlock ∧ some k_ ≠ (.slice Ao16 t163.length co16 : Value).ownBlock) k_ from fun k_ hk => ⟨Kd.fresh' (Kd.N_lt (by (with_reducible repeat (first | apply Kd.N_alloc | apply Kd.N_drewN | apply Kd.N_drew)); exact HO158.out)) k_ hk, Kd.fresh' (Kd.N_lt (by (with_reducible repeat (first | apply Kd.N_alloc | apply Kd.N_drewN | apply Kd.N_drew)); exact HO161.out)) k_ hk, Kd.fresh' (Kd.N_lt (by (with_reducible repeat (first | apply Kd.N_alloc | apply Kd.N_drewN | apply Kd.N_drew)); exact HO165.out)) k_ hk⟩) _ (Nat.le_refl _)) (Below.refl _ _) (Nat.le_refl _) (by simp) ?_; (case hd => rfl); (case hg => rfl); (case hr => first | (go_simp; done) | (go_simp; rfl)); (case hp => exact (Reps.one (show Kd.FK (Kd.slice 3 (Kd.int .i64)) _ _ y170 [.slice Ao25 y170.length co25] from (Kd.FK_slice_mk (Kd.R_reads' (Kd.R_mono (ok' := (fun k_ => some k_ ≠ (.slice Ao13 t156.length co13 : Value).ownBlock ∧ some k_ ≠ (v160 : Value).ownBlock ∧ some k_ ≠ (.slice Ao16 t163.length co16 : Value).ownBlock)) (Kd.R_apart' (Kd.R_apart' (Kd.R_apart' (HO172.out) (Kd.N_typed HO158.out) (by decide)) (Kd.N_typed HO161.out) (by decide)) (Kd.N_typed HO165.out) (by decide)) (fun k_ hk => ⟨hk.1.1.2, ⟨hk.1.2, hk.2⟩⟩))).2.1 (Kd.R_F (Kd.R_mono (ok' := (fun k_ => some k_ ≠ (.slice Ao13 t156.length co13 : Value).ownBlock ∧ some k_ ≠ (v160 : Value).ownBlock ∧ some k_ ≠ (.slice Ao16 t163.length co16 : Value).ownBlock)) (Kd.R_apart' (Kd.R_apart' (Kd.R_apart' (HO172.out) (Kd.N_typed HO158.out) (by decide)) (Kd.N_typed HO161.out) (by decide)) (Kd.N_typed HO165.out) (by decide)) (fun k_ hk => ⟨hk.1.1.2, ⟨hk.1.2, hk.2⟩⟩))))) (Reps.one (show Kd.FK (Kd.slice 3 (Kd.int .i64)) _ _ y173 [.slice Ao26 y173.length co26] from (Kd.FK_slice_mk (Kd.R_reads' (Kd.R_mono (ok' := (fun k_ => some k_ ≠ (.slice Ao13 t156.length co13 : Value).ownBlock ∧ some k_ ≠ (v160 : Value).ownBlock ∧ some k_ ≠ (.slice Ao16 t163.length co16 : Value).ownBlock)) (Kd.R_apart' (Kd.R_apart' (Kd.R_apart' (HO175.out) (Kd.N_typed HO158.out) (by decide)) (Kd.N_typed HO161.out) (by decide)) (Kd.N_typed HO165.out) (by decide)) (fun k_ hk => ⟨hk.1.1.2, ⟨hk.1.2, hk.2⟩⟩))).2.1 (Kd.R_F (Kd.R_mono (ok' := (fun k_ => some k_ ≠ (.slice Ao13 t156.length co13 : Value).ownBlock ∧ some k_ ≠ (v160 : Value).ownBlock ∧ some k_ ≠ (.slice Ao16 t163.length co16 : Value).ownBlock)) (Kd.R_apart' (Kd.R_apart' (Kd.R_apart' (HO175.out) (Kd.N_typed HO158.out) (by decide)) (Kd.N_typed HO161.out) (by decide)) (Kd.N_typed HO165.out) (by decide)) (fun k_ hk => ⟨hk.1.1.2, ⟨hk.1.2, hk.2⟩⟩))))) (Reps.one (show Kd.FK (Kd.slice 3 (Kd.int .i64)) _ _ y176 [.slice Ao27 y176.length co27] from (Kd.FK_slice_mk (Kd.R_reads' (Kd.R_mono (ok' := (fun k_ => some k_ ≠ (.slice Ao13 t156.length co13 : Value).ownBlock ∧ some k_ ≠ (v160 : Value).ownBlock ∧ some k_ ≠ (.slice Ao16 t163.length co16 : Value).ownBlock)) (Kd.R_apart' (Kd.R_apart' (Kd.R_apart' (HO178.out) (Kd.N_typed HO158.out) (by decide)) (Kd.N_typed HO161.out) (by decide)) (Kd.N_typed HO165.out) (by decide)) (fun k_ hk => ⟨hk.1.1.2, ⟨hk.1.2, hk.2⟩⟩))).2.1 (Kd.R_F (Kd.R_mono (ok' := (fun k_ => some k_ ≠ (.slice Ao13 t156.length co13 : Value).ownBlock ∧ some k_ ≠ (v160 : Value).ownBlock ∧ some k_ ≠ (.slice Ao16 t163.length co16 : Value).ownBlock)) (Kd.R_apart' (Kd.R_apart' (Kd.R_apart' (HO178.out) (Kd.N_typed HO158.out) (by decide)) (Kd.N_typed HO161.out) (by decide)) (Kd.N_typed HO165.out) (by decide)) (fun k_ hk => ⟨hk.1.1.2, ⟨hk.1.2, hk.2⟩⟩))))) (Reps.none _ _))))); intro v180 w28 ho29 hb hg_ hnew_; clear hg_ hnew_; (first | rw [← Ny179.out] at ho29 | (simp only [Int.reduceToNat] at ho29; rw [← Ny179.out] at ho29)); have n0_ := Aside0.mk (Kd.N_elder' (by (with_reducible repeat (first | apply Kd.N_alloc | apply Kd.N_drewN | apply Kd.N_drew)); exact HO158.out) (Kd.N_base ho29) hb); have n1_ := Aside0.mk (Kd.N_elder' (by (with_reducible repeat (first | apply Kd.N_alloc | apply Kd.N_drewN | apply Kd.N_drew)); exact HO161.out) (Kd.N_base ho29) hb); have n2_ := Aside0.mk (Kd.N_elder' (by (with_reducible repeat (first | apply Kd.N_alloc | apply Kd.N_drewN | apply Kd.N_drew)); exact HO165.out) (Kd.N_base ho29) hb); have n3_ := Aside0.mk (Kd.N_lower ho29 (below_size (by repeat (first | (with_reducible first | exact HB.out | apply below_alloc | apply pw_below_drewN | apply below_drew1) | exact HB.out)))); have n4_ := Aside0.mk (below_step (by repeat (first | (with_reducible first | exact HB.out | apply below_alloc | apply pw_below_drewN | apply below_drew1) | exact HB.out)) hb); clear HO158; clear HO161; clear HO165; clear HB; clear HO172; clear HO175; clear HO178; have HO158 := n0_; have HO161 := n1_; have HO165 := n2_; have HO181 := n3_; have HB := n4_; clear n0_ n1_ n2_ n3_ n4_; clear hb ho29; obtain ⟨Ao30, co30, eo30⟩ := Kd.N_slice HO161.out; subst eo30; obtain ⟨Ao31, co31, eo31⟩ := Kd.N_slice HO181.out; subst eo31) | (go_at_call 53; (with_reducible refine (verditerref06_SameLists.calls k _ _ t159 _ _ y179 true _ ?side1 ?side2 ?side3 ?side4 A7.out).mono ?_); (case side1 => repeat (first | exact (Kd.N_reads' HO161.out).2.2 | (with_reducible refine Kd.C_alloc ?_ _) | (with_reducible refine Kd.C_drewN ?_ _) | (with_reducible refine Kd.C_drew ?_))); (case side2 => exact (Kd.N_reads' HO161.out).2.1); (case side3 => repeat (first | exact (Kd.N_reads' HO181.out).2.2 | (with_reducible refine Kd.C_alloc ?_ _) | (with_reducible refine Kd.C_drewN ?_ _) | (with_reducible refine Kd.C_drew ?_))); (case side4 => exact (Kd.N_reads' HO181.out).2.1); rintro e w' ⟨rfl, ⟨nd, rfl⟩⟩))
            go_ret
            exact ⟨by first | rfl | (simp [errW_none, errW_some] <;> rfl) | (simp [*, errW_none, errW_some] <;> rfl), by repeat (first | (with_reducible first | exact HB.out | apply below_alloc | apply pw_below_drewN | apply below_drew1) | exact HB.out)⟩
          · rw [if_neg c11] at H
            have c11b0 : (t169 == 0) = false := beq_eq_false_iff_ne.mpr c11
            have c11b1 : (t169 != 0) = true := bne_iff_ne.mpr c11
            exact absurd ((Option.some.inj H).trans hT) (by decide)
        · replace c10 := Bool.eq_false_iff.mpr c10
          subst c10
          have H1 : (some false) = some r := by rw [if_neg (show ¬ (false = true) by decide)] at H; exact H
          clear H
          have H := H1
          clear H1
          exact absurd ((Option.some.inj H).trans hT) (by decide)
      · rw [if_neg c9] at H
        have c9b0 : (t167 == 0) = false := beq_eq_false_iff_ne.mpr c9
        have c9b1 : (t167 != 0) = true := bne_iff_ne.mpr c9
        exact absurd ((Option.some.inj H).trans hT) (by decide)
    · replace c8 := Bool.eq_false_iff.mpr c8
      subst c8
      have H1 : (some false) = some r := by rw [if_neg (show ¬ (false = true) by decide)] at H; exact H
      clear H
      have H := H1
      clear H1
      exact absurd ((Option.some.inj H).trans hT) (by decide)
  · rw [if_neg c6] at H
    have c6b0 : (t162 == 0) = false := beq_eq_false_iff_ne.mpr c6
    have c6b1 : (t162 != 0) = true := bne_iff_ne.mpr c6
    exact absurd ((Option.some.inj H).trans hT) (by decide)

end Go.Proofs.Ytdbeochifofdoaa.X
end

section
-- Written by a program of this session (wip/hook.py, which runs the kit's print.py with contracts proved by hand). Not trusted: Lean checks it.
namespace Go.Proofs.Ytdbeochifofdoaa.X
open Go.RowKit Go.Proofs.YtdbeochifofdoaaW.PrintWords Go.Proofs.YtdbeochifofdoaaW.PrintLast Go.Proofs.YtdbeochifofdoaaW.PrintMore
attribute [local go_sem] max2_int min2_int max_two min_two max_three min_three max_four min_four   -- for this text's walks alone
set_option linter.unusedVariables false
set_option linter.unusedSimpArgs false

/-! ### verditerlaw06_Long: function 43 -/
def verditerlaw06_Long.l0 : Nat → List (S53) → Int → Option (Bool)
  | 0, _, _ => none
  | k + 1, x0, x3 => if x3 < (x0.length : Int) then (if 0 ≤ x3 then (if (((rd_T53 x0 x3).f0).length : Int) > 50 then (some true) else (if (((rd_T53 x0 x3).f1).length : Int) > 50 then (some true) else (verditerlaw06_Long.l0 k x0 (wrap64 (x3 + 1))))) else (none)) else (some false)
def verditerlaw06_Long.f (k : Nat) (l0 : List (S53)) : Option (Bool) := if (l0.length : Int) > 50 then (some true) else (verditerlaw06_Long.l0 k l0 0)
set_option maxHeartbeats 8000000 in
set_option maxRecDepth 100000 in
theorem verditerlaw06_Long.calls (k : Nat) (A0 : Option Addr) (c0 : Nat) (l0 : List (S53)) (r : Bool) (w : World) (hr0 : Kd.C k53 w A0 l0.length l0) (hc0 : l0.length ≤ c0) (h : verditerlaw06_Long.f k l0 = some r) :
    Calls Try.prog 43 #[.slice A0 l0.length c0] w fun e w' => e = .returned (.bool r) ∧ Drawn0 w w' := by
  have HR0 := Aside0.mk hr0
  have HC0 := Aside0.mk hc0
  clear hr0 hc0
  have H : (if (l0.length : Int) > 50 then (some true) else (verditerlaw06_Long.l0 k l0 0)) = some r := h
  clear h
  by_cases c2 : (l0.length : Int) > 50
  · rw [if_pos c2] at H
    have c2b0 : decide (50 < (l0.length : Int)) = true := decide_eq_true c2
    have c2b1 : decide (50 < l0.length) = true := decide_eq_true (by omega)
    clear c2
    obtain rfl := Option.some.inj H
    go_enter Try.func43, Try.ntmps43
    go_wp2
    go_ret
    exact ⟨by first | rfl | (simp; done) | (simp [*]; done), by repeat (first | exact Drawn0.refl _ | apply Drawn0.step)⟩
  · rw [if_neg c2] at H
    have c2b0 : decide (50 < (l0.length : Int)) = false := decide_eq_false c2
    have c2b1 : decide (50 < l0.length) = false := decide_eq_false (by omega)
    clear c2
    have H' := Aside0.mk H
    clear H
    go_enter Try.func43, Try.ntmps43
    go_wp2
    go_loopg [3] k (fun kq v3 w' => ∃ (x3_1 : Int), v3 = .int .i64 x3_1 ∧ Aside0 (verditerlaw06_Long.l0 kq l0 x3_1 = some r) ∧ Aside0 (kq ≤ k) ∧ Drawn0 w w')
    case atStart => exact ⟨(0), (by first | rfl | (simp; done) | (simp [*]; done)), H', ⟨Nat.le_refl _⟩, by repeat (first | exact Drawn0.refl _ | apply Drawn0.step)⟩
    case round =>
      clear H'
      try clear c2
      try clear c2b0
      try clear c2b1
      try clear p2
      obtain ⟨x3_1, rfl, HA, HK1, ⟨m1, rfl⟩⟩ := hrel
      cases gk with
      | zero => exact absurd HA.out (by simp [verditerlaw06_Long.l0])
      | succ k1 =>
        have H := HA.out
        clear HA
        simp only [verditerlaw06_Long.l0] at H
        by_cases c3 : x3_1 < (l0.length : Int)
        · rw [if_pos c3] at H
          have c3b0 : decide (x3_1 < (l0.length : Int)) = true := decide_eq_true c3
          clear c3
          by_cases c4 : 0 ≤ x3_1
          · rw [if_pos c4] at H
            have c4b0 : decide (0 ≤ x3_1) = true := decide_eq_true c4
            clear c4
            by_cases c5 : (((rd_T53 l0 x3_1).f0).length : Int) > 50
            · rw [if_pos c5] at H
              have c5b0 : decide (50 < (((rd_T53 l0 x3_1).f0).length : Int)) = true := decide_eq_true c5
              have c5b1 : decide (50 < ((rd_T53 l0 x3_1).f0).length) = true := decide_eq_true (by omega)
              clear c5
              obtain rfl := Option.some.inj H
              have p236 : 0 ≤ (x3_1 : Int) := of_decide_eq_true (by first | (with_reducible assumption) | assumption)
              have q236 : x3_1 < (l0.length : Int) := of_decide_eq_true (by first | (with_reducible assumption) | assumption)
              obtain ⟨ad236, A236_0, c236_0, A236_1, c236_1, e236, hx236_0, hx236_1, hl236_0, hi236_0, hl236_1, hi236_1⟩ := at_T53 HR0.out x3_1 p236 q236
              cases e236
              have HR236_0 := Aside0.mk hi236_0
              have HC236_0 := Aside0.mk hl236_0
              clear hi236_0 hl236_0
              have HR236_1 := Aside0.mk hi236_1
              have HC236_1 := Aside0.mk hl236_1
              clear hi236_1 hl236_1
              replace p236 := eq_true p236
              replace q236 := eq_true q236
              go_wp2
              go_ret
              exact ⟨by first | rfl | (simp; done) | (simp [*]; done), by repeat (first | exact Drawn0.refl _ | apply Drawn0.step)⟩
            · rw [if_neg c5] at H
              have c5b0 : decide (50 < (((rd_T53 l0 x3_1).f0).length : Int)) = false := decide_eq_false c5
              have c5b1 : decide (50 < ((rd_T53 l0 x3_1).f0).length) = false := decide_eq_false (by omega)
              clear c5
              by_cases c6 : (((rd_T53 l0 x3_1).f1).length : Int) > 50
              · rw [if_pos c6] at H
                have c6b0 : decide (50 < (((rd_T53 l0 x3_1).f1).length : Int)) = true := decide_eq_true c6
                have c6b1 : decide (50 < ((rd_T53 l0 x3_1).f1).length) = true := decide_eq_true (by omega)
                clear c6
                obtain rfl := Option.some.inj H
                have p236 : 0 ≤ (x3_1 : Int) := of_decide_eq_true (by first | (with_reducible assumption) | assumption)
                have q236 : x3_1 < (l0.length : Int) := of_decide_eq_true (by first | (with_reducible assumption) | assumption)
                obtain ⟨ad236, A236_0, c236_0, A236_1, c236_1, e236, hx236_0, hx236_1, hl236_0, hi236_0, hl236_1, hi236_1⟩ := at_T53 HR0.out x3_1 p236 q236
                cases e236
                have HR236_0 := Aside0.mk hi236_0
                have HC236_0 := Aside0.mk hl236_0
                clear hi236_0 hl236_0
                have HR236_1 := Aside0.mk hi236_1
                have HC236_1 := Aside0.mk hl236_1
                clear hi236_1 hl236_1
                replace p236 := eq_true p236
                replace q236 := eq_true q236
                have p237 : 0 ≤ (x3_1 : Int) := of_decide_eq_true (by first | (with_reducible assumption) | assumption)
                have q237 : x3_1 < (l0.length : Int) := of_decide_eq_true (by first | (with_reducible assumption) | assumption)
                obtain ⟨ad237, A237_0, c237_0, A237_1, c237_1, e237, hx237_0, hx237_1, hl237_0, hi237_0, hl237_1, hi237_1⟩ := at_T53 HR0.out x3_1 p237 q237
                obtain rfl : ad236 = ad237 := (by injection e237)
                have HR237_0 := Aside0.mk hi237_0
                have HC237_0 := Aside0.mk hl237_0
                clear hi237_0 hl237_0
                have HR237_1 := Aside0.mk hi237_1
                have HC237_1 := Aside0.mk hl237_1
                clear hi237_1 hl237_1
                replace p237 := eq_true p237
                replace q237 := eq_true q237
                have ea_ := Option.some.inj (hx236_0.symm.trans hx237_0)
                injection ea_ with ea_ en_ ec_
                subst ea_
                subst ec_
                clear en_
                have ea_ := Option.some.inj (hx236_1.symm.trans hx237_1)
                injection ea_ with ea_ en_ ec_
                subst ea_
                subst ec_
                clear en_
                go_wp2
                go_ret
                exact ⟨by first | rfl | (simp; done) | (simp [*]; done), by repeat (first | exact Drawn0.refl _ | apply Drawn0.step)⟩
              · rw [if_neg c6] at H
                have c6b0 : decide (50 < (((rd_T53 l0 x3_1).f1).length : Int)) = false := decide_eq_false c6
                have c6b1 : decide (50 < ((rd_T53 l0 x3_1).f1).length) = false := decide_eq_false (by omega)
                clear c6
                have H' := Aside0.mk H
                clear H
                have p236 : 0 ≤ (x3_1 : Int) := of_decide_eq_true (by first | (with_reducible assumption) | assumption)
                have q236 : x3_1 < (l0.length : Int) := of_decide_eq_true (by first | (with_reducible assumption) | assumption)
                obtain ⟨ad236, A236_0, c236_0, A236_1, c236_1, e236, hx236_0, hx236_1, hl236_0, hi236_0, hl236_1, hi236_1⟩ := at_T53 HR0.out x3_1 p236 q236
                cases e236
                have HR236_0 := Aside0.mk hi236_0
                have HC236_0 := Aside0.mk hl236_0
                clear hi236_0 hl236_0
                have HR236_1 := Aside0.mk hi236_1
                have HC236_1 := Aside0.mk hl236_1
                clear hi236_1 hl236_1
                replace p236 := eq_true p236
                replace q236 := eq_true q236
                have p237 : 0 ≤ (x3_1 : Int) := of_decide_eq_true (by first | (with_reducible assumption) | assumption)
                have q237 : x3_1 < (l0.length : Int) := of_decide_eq_true (by first | (with_reducible assumption) | assumption)
                obtain ⟨ad237, A237_0, c237_0, A237_1, c237_1, e237, hx237_0, hx237_1, hl237_0, hi237_0, hl237_1, hi237_1⟩ := at_T53 HR0.out x3_1 p237 q237
                obtain rfl : ad236 = ad237 := (by injection e237)
                have HR237_0 := Aside0.mk hi237_0
                have HC237_0 := Aside0.mk hl237_0
                clear hi237_0 hl237_0
                have HR237_1 := Aside0.mk hi237_1
                have HC237_1 := Aside0.mk hl237_1
                clear hi237_1 hl237_1
                replace p237 := eq_true p237
                replace q237 := eq_true q237
                have ea_ := Option.some.inj (hx236_0.symm.trans hx237_0)
                injection ea_ with ea_ en_ ec_
                subst ea_
                subst ec_
                clear en_
                have ea_ := Option.some.inj (hx236_1.symm.trans hx237_1)
                injection ea_ with ea_ en_ ec_
                subst ea_
                subst ec_
                clear en_
                go_wp2
                go_roundg k1
                case measure => have := HK1.out; omega
                case rel => exact ⟨(wrap64 (x3_1 + 1)), (by first | rfl | (simp; done) | (simp [*]; done)), H', ⟨by have := HK1.out; omega⟩, by repeat (first | exact Drawn0.refl _ | apply Drawn0.step)⟩
          · rw [if_neg c4] at H
            exact absurd H (by simp)
        · rw [if_neg c3] at H
          have c3b0 : decide (x3_1 < (l0.length : Int)) = false := decide_eq_false c3
          clear c3
          obtain rfl := Option.some.inj H
          go_wp2
          go_ret
          exact ⟨by first | rfl | (simp; done) | (simp [*]; done), by repeat (first | exact Drawn0.refl _ | apply Drawn0.step)⟩

end Go.Proofs.Ytdbeochifofdoaa.X
end

section
-- Written by a program of this session (wip/hook.py, which runs the kit's print.py with contracts proved by hand). Not trusted: Lean checks it.
namespace Go.Proofs.Ytdbeochifofdoaa.X
open Go.RowKit Go.Proofs.YtdbeochifofdoaaW.PrintWords Go.Proofs.YtdbeochifofdoaaW.PrintLast Go.Proofs.YtdbeochifofdoaaW.PrintMore
attribute [local go_sem] max2_int min2_int max_two min_two max_three min_three max_four min_four   -- for this text's walks alone
set_option linter.unusedVariables false
set_option linter.unusedSimpArgs false

/-! ### verditerref06_Same: function 68 -/
def verditerref06_Same.l0 : Nat → List (S53) → List (S53) → Int → Option (Bool)
  | 0, _, _, _ => none
  | k + 1, x0, x1, x5 => if x5 < (x0.length : Int) then (if 0 ≤ x5 then (if x5 < (x1.length : Int) then ((verditerref06_SameInts.f k ((rd_T53 x0 x5).f0) ((rd_T53 x1 x5).f0)).bind fun t503 => (if t503 = true then ((verditerref06_SameInts.f k ((rd_T53 x0 x5).f1) ((rd_T53 x1 x5).f1)).bind fun t506 => (if t506 = true then (verditerref06_Same.l0 k x0 x1 (wrap64 (x5 + 1))) else (some false))) else (some false))) else (none)) else (none)) else (some true)
def verditerref06_Same.f (k : Nat) (l0 : List (S53)) (l1 : List (S53)) : Option (Bool) := if (l0.length : Int) = (l1.length : Int) then (verditerref06_Same.l0 k l0 l1 0) else (some false)
set_option maxHeartbeats 8000000 in
set_option maxRecDepth 100000 in
theorem verditerref06_Same.calls (k : Nat) (A0 : Option Addr) (c0 : Nat) (l0 : List (S53)) (A1 : Option Addr) (c1 : Nat) (l1 : List (S53)) (r : Bool) (w : World) (hr0 : Kd.C k53 w A0 l0.length l0) (hc0 : l0.length ≤ c0) (hr1 : Kd.C k53 w A1 l1.length l1) (hc1 : l1.length ≤ c1) (h : verditerref06_Same.f k l0 l1 = some r) :
    Calls Try.prog 68 #[.slice A0 l0.length c0, .slice A1 l1.length c1] w fun e w' => e = .returned (.bool r) ∧ Drawn0 w w' := by
  have HR0 := Aside0.mk hr0
  have HC0 := Aside0.mk hc0
  clear hr0 hc0
  have HR1 := Aside0.mk hr1
  have HC1 := Aside0.mk hc1
  clear hr1 hc1
  have H : (if (l0.length : Int) = (l1.length : Int) then (verditerref06_Same.l0 k l0 l1 0) else (some false)) = some r := h
  clear h
  by_cases c3 : (l0.length : Int) = (l1.length : Int)
  · rw [if_pos c3] at H
    have c3b0 : ((l0.length : Int) == (l1.length : Int)) = true := beq_iff_eq.mpr c3
    have c3b1 : ((l0.length : Int) != (l1.length : Int)) = false := bne_eq_false_iff_eq.mpr c3
    have c3b2 : (l0.length == l1.length) = true := by first | simpa using c3 | (simp at c3 ⊢; omega)
    clear c3
    have H' := Aside0.mk H
    clear H
    go_enter Try.func68, Try.ntmps68
    go_wp2
    repeat (go_quiet (fail); try go_wp2)
    go_loopg [5] k (fun kq v5 w' => ∃ (x5_1 : Int), v5 = .int .i64 x5_1 ∧ Aside0 (verditerref06_Same.l0 kq l0 l1 x5_1 = some r) ∧ Aside0 (kq ≤ k) ∧ Drawn0 w w')
    case atStart => exact ⟨(0), (by first | rfl | (simp; done) | (simp [*]; done)), H', ⟨Nat.le_refl _⟩, by repeat (first | exact Drawn0.refl _ | apply Drawn0.step)⟩
    case round =>
      clear H'
      try clear c1
      try clear p2
      try clear c3
      try clear c3b0
      try clear c3b1
      try clear c3b2
      obtain ⟨x5_1, rfl, HA, HK1, ⟨m1, rfl⟩⟩ := hrel
      cases gk with
      | zero => exact absurd HA.out (by simp [verditerref06_Same.l0])
      | succ k1 =>
        have H := HA.out
        clear HA
        simp only [verditerref06_Same.l0] at H
        by_cases c4 : x5_1 < (l0.length : Int)
        · rw [if_pos c4] at H
          have c4b0 : decide (x5_1 < (l0.length : Int)) = true := decide_eq_true c4
          clear c4
          by_cases c5 : 0 ≤ x5_1
          · rw [if_pos c5] at H
            have c5b0 : decide (0 ≤ x5_1) = true := decide_eq_true c5
            clear c5
            by_cases c6 : x5_1 < (l1.length : Int)
            · rw [if_pos c6] at H
              have c6b0 : decide (x5_1 < (l1.length : Int)) = true := decide_eq_true c6
              clear c6
              replace H := Option.bind_eq_some_iff.mp H
              obtain ⟨t503, A70, H⟩ := H
              replace H : (if t503 = true then ((verditerref06_SameInts.f k1 ((rd_T53 l0 x5_1).f1) ((rd_T53 l1 x5_1).f1)).bind fun t506 => (if t506 = true then (verditerref06_Same.l0 k1 l0 l1 (wrap64 (x5_1 + 1))) else (some false))) else (some false)) = some r := H
              have A7 := Aside0.mk A70
              clear A70
              by_cases c8 : t503 = true
              · subst c8
                have H1 : ((verditerref06_SameInts.f k1 ((rd_T53 l0 x5_1).f1) ((rd_T53 l1 x5_1).f1)).bind fun t506 => (if t506 = true then (verditerref06_Same.l0 k1 l0 l1 (wrap64 (x5_1 + 1))) else (some false))) = some r := by rw [if_pos rfl] at H; exact H
                clear H
                have H := H1
                clear H1
                replace H := Option.bind_eq_some_iff.mp H
                obtain ⟨t506, A90, H⟩ := H
                replace H : (if t506 = true then (verditerref06_Same.l0 k1 l0 l1 (wrap64 (x5_1 + 1))) else (some false)) = some r := H
                have A9 := Aside0.mk A90
                clear A90
                by_cases c10 : t506 = true
                · subst c10
                  have H1 : (verditerref06_Same.l0 k1 l0 l1 (wrap64 (x5_1 + 1))) = some r := by rw [if_pos rfl] at H; exact H
                  clear H
                  have H := H1
                  clear H1
                  have H' := Aside0.mk H
                  clear H
                  have p501 : 0 ≤ (x5_1 : Int) := of_decide_eq_true (by first | (with_reducible assumption) | assumption)
                  have q501 : x5_1 < (l0.length : Int) := of_decide_eq_true (by first | (with_reducible assumption) | assumption)
                  obtain ⟨ad501, A501_0, c501_0, A501_1, c501_1, e501, hx501_0, hx501_1, hl501_0, hi501_0, hl501_1, hi501_1⟩ := at_T53 HR0.out x5_1 p501 q501
                  cases e501
                  have HR501_0 := Aside0.mk hi501_0
                  have HC501_0 := Aside0.mk hl501_0
                  clear hi501_0 hl501_0
                  have HR501_1 := Aside0.mk hi501_1
                  have HC501_1 := Aside0.mk hl501_1
                  clear hi501_1 hl501_1
                  replace p501 := eq_true p501
                  replace q501 := eq_true q501
                  have p502 : 0 ≤ (x5_1 : Int) := of_decide_eq_true (by first | (with_reducible assumption) | assumption)
                  have q502 : x5_1 < (l1.length : Int) := of_decide_eq_true (by first | (with_reducible assumption) | assumption)
                  obtain ⟨ad502, A502_0, c502_0, A502_1, c502_1, e502, hx502_0, hx502_1, hl502_0, hi502_0, hl502_1, hi502_1⟩ := at_T53 HR1.out x5_1 p502 q502
                  cases e502
                  have HR502_0 := Aside0.mk hi502_0
                  have HC502_0 := Aside0.mk hl502_0
                  clear hi502_0 hl502_0
                  have HR502_1 := Aside0.mk hi502_1
                  have HC502_1 := Aside0.mk hl502_1
                  clear hi502_1 hl502_1
                  replace p502 := eq_true p502
                  replace q502 := eq_true q502
                  go_wp2_with (first | (go_at_call 60; (with_reducible refine (verditerref06_SameInts.calls k1 _ _ ((rd_T53 l0 x5_1).f0) _ _ ((rd_T53 l1 x5_1).f0) true _ ?side1 ?side2 ?side3 ?side4 A7.out).mono ?_); (case side1 => repeat (first | exact HR501_0.out | (with_reducible refine Kd.C_alloc ?_ _) | (with_reducible refine Kd.C_drewN ?_ _) | (with_reducible refine Kd.C_drew ?_))); (case side2 => exact HC501_0.out); (case side3 => repeat (first | exact HR502_0.out | (with_reducible refine Kd.C_alloc ?_ _) | (with_reducible refine Kd.C_drewN ?_ _) | (with_reducible refine Kd.C_drew ?_))); (case side4 => exact HC502_0.out); rintro e w' ⟨rfl, ⟨nd, rfl⟩⟩; (try first | exact ⟨rfl, _, World.drewN_drewN _ _ _⟩ | exact ⟨rfl, _, Eq.trans (World.drewN_drewN _ _ _) (congrArg (World.drewN _) (Nat.add_assoc _ _ _))⟩); have p504 : 0 ≤ (x5_1 : Int) := of_decide_eq_true (by first | (with_reducible assumption) | assumption); have q504 : x5_1 < (l0.length : Int) := of_decide_eq_true (by first | (with_reducible assumption) | assumption); obtain ⟨ad504, A504_0, c504_0, A504_1, c504_1, e504, hx504_0, hx504_1, hl504_0, hi504_0, hl504_1, hi504_1⟩ := at_T53 HR0.out x5_1 p504 q504; obtain rfl : ad501 = ad504 := (by injection e504); have HR504_0 := Aside0.mk hi504_0; have HC504_0 := Aside0.mk hl504_0; clear hi504_0 hl504_0; have HR504_1 := Aside0.mk hi504_1; have HC504_1 := Aside0.mk hl504_1; clear hi504_1 hl504_1; replace p504 := eq_true p504; replace q504 := eq_true q504; have ea_ := Option.some.inj (hx501_0.symm.trans hx504_0); injection ea_ with ea_ en_ ec_; subst ea_; subst ec_; clear en_; have ea_ := Option.some.inj (hx501_1.symm.trans hx504_1); injection ea_ with ea_ en_ ec_; subst ea_; subst ec_; clear en_; have p505 : 0 ≤ (x5_1 : Int) := of_decide_eq_true (by first | (with_reducible assumption) | assumption); have q505 : x5_1 < (l1.length : Int) := of_decide_eq_true (by first | (with_reducible assumption) | assumption); obtain ⟨ad505, A505_0, c505_0, A505_1, c505_1, e505, hx505_0, hx505_1, hl505_0, hi505_0, hl505_1, hi505_1⟩ := at_T53 HR1.out x5_1 p505 q505; obtain rfl : ad502 = ad505 := (by injection e505); have HR505_0 := Aside0.mk hi505_0; have HC505_0 := Aside0.mk hl505_0; clear hi505_0 hl505_0; have HR505_1 := Aside0.mk hi505_1; have HC505_1 := Aside0.mk hl505_1; clear hi505_1 hl505_1; replace p505 := eq_true p505; replace q505 := eq_true q505; have ea_ := Option.some.inj (hx502_0.symm.trans hx505_0); injection ea_ with ea_ en_ ec_; subst ea_; subst ec_; clear en_; have ea_ := Option.some.inj (hx502_1.symm.trans hx505_1); injection ea_ with ea_ en_ ec_; subst ea_; subst ec_; clear en_) | (go_at_call 60; (with_reducible refine (verditerref06_SameInts.calls k1 _ _ ((rd_T53 l0 x5_1).f1) _ _ ((rd_T53 l1 x5_1).f1) true _ ?side1 ?side2 ?side3 ?side4 A9.out).mono ?_); (case side1 => repeat (first | exact HR504_1.out | (with_reducible refine Kd.C_alloc ?_ _) | (with_reducible refine Kd.C_drewN ?_ _) | (with_reducible refine Kd.C_drew ?_))); (case side2 => exact HC504_1.out); (case side3 => repeat (first | exact HR505_1.out | (with_reducible refine Kd.C_alloc ?_ _) | (with_reducible refine Kd.C_drewN ?_ _) | (with_reducible refine Kd.C_drew ?_))); (case side4 => exact HC505_1.out); rintro e w' ⟨rfl, ⟨nd, rfl⟩⟩; (try first | exact ⟨rfl, _, World.drewN_drewN _ _ _⟩ | exact ⟨rfl, _, Eq.trans (World.drewN_drewN _ _ _) (congrArg (World.drewN _) (Nat.add_assoc _ _ _))⟩)))
                  repeat (go_quiet (first | (go_at_call 60; (with_reducible refine (verditerref06_SameInts.calls k1 _ _ ((rd_T53 l0 x5_1).f0) _ _ ((rd_T53 l1 x5_1).f0) true _ ?side1 ?side2 ?side3 ?side4 A7.out).mono ?_); (case side1 => repeat (first | exact HR501_0.out | (with_reducible refine Kd.C_alloc ?_ _) | (with_reducible refine Kd.C_drewN ?_ _) | (with_reducible refine Kd.C_drew ?_))); (case side2 => exact HC501_0.out); (case side3 => repeat (first | exact HR502_0.out | (with_reducible refine Kd.C_alloc ?_ _) | (with_reducible refine Kd.C_drewN ?_ _) | (with_reducible refine Kd.C_drew ?_))); (case side4 => exact HC502_0.out); rintro e w' ⟨rfl, ⟨nd, rfl⟩⟩; (try first | exact ⟨rfl, _, World.drewN_drewN _ _ _⟩ | exact ⟨rfl, _, Eq.trans (World.drewN_drewN _ _ _) (congrArg (World.drewN _) (Nat.add_assoc _ _ _))⟩); have p504 : 0 ≤ (x5_1 : Int) := of_decide_eq_true (by first | (with_reducible assumption) | assumption); have q504 : x5_1 < (l0.length : Int) := of_decide_eq_true (by first | (with_reducible assumption) | assumption); obtain ⟨ad504, A504_0, c504_0, A504_1, c504_1, e504, hx504_0, hx504_1, hl504_0, hi504_0, hl504_1, hi504_1⟩ := at_T53 HR0.out x5_1 p504 q504; obtain rfl : ad501 = ad504 := (by injection e504); have HR504_0 := Aside0.mk hi504_0; have HC504_0 := Aside0.mk hl504_0; clear hi504_0 hl504_0; have HR504_1 := Aside0.mk hi504_1; have HC504_1 := Aside0.mk hl504_1; clear hi504_1 hl504_1; replace p504 := eq_true p504; replace q504 := eq_true q504; have ea_ := Option.some.inj (hx501_0.symm.trans hx504_0); injection ea_ with ea_ en_ ec_; subst ea_; subst ec_; clear en_; have ea_ := Option.some.inj (hx501_1.symm.trans hx504_1); injection ea_ with ea_ en_ ec_; subst ea_; subst ec_; clear en_; have p505 : 0 ≤ (x5_1 : Int) := of_decide_eq_true (by first | (with_reducible assumption) | assumption); have q505 : x5_1 < (l1.length : Int) := of_decide_eq_true (by first | (with_reducible assumption) | assumption); obtain ⟨ad505, A505_0, c505_0, A505_1, c505_1, e505, hx505_0, hx505_1, hl505_0, hi505_0, hl505_1, hi505_1⟩ := at_T53 HR1.out x5_1 p505 q505; obtain rfl : ad502 = ad505 := (by injection e505); have HR505_0 := Aside0.mk hi505_0; have HC505_0 := Aside0.mk hl505_0; clear hi505_0 hl505_0; have HR505_1 := Aside0.mk hi505_1; have HC505_1 := Aside0.mk hl505_1; clear hi505_1 hl505_1; replace p505 := eq_true p505; replace q505 := eq_true q505; have ea_ := Option.some.inj (hx502_0.symm.trans hx505_0); injection ea_ with ea_ en_ ec_; subst ea_; subst ec_; clear en_; have ea_ := Option.some.inj (hx502_1.symm.trans hx505_1); injection ea_ with ea_ en_ ec_; subst ea_; subst ec_; clear en_) | (go_at_call 60; (with_reducible refine (verditerref06_SameInts.calls k1 _ _ ((rd_T53 l0 x5_1).f1) _ _ ((rd_T53 l1 x5_1).f1) true _ ?side1 ?side2 ?side3 ?side4 A9.out).mono ?_); (case side1 => repeat (first | exact HR504_1.out | (with_reducible refine Kd.C_alloc ?_ _) | (with_reducible refine Kd.C_drewN ?_ _) | (with_reducible refine Kd.C_drew ?_))); (case side2 => exact HC504_1.out); (case side3 => repeat (first | exact HR505_1.out | (with_reducible refine Kd.C_alloc ?_ _) | (with_reducible refine Kd.C_drewN ?_ _) | (with_reducible refine Kd.C_drew ?_))); (case side4 => exact HC505_1.out); rintro e w' ⟨rfl, ⟨nd, rfl⟩⟩; (try first | exact ⟨rfl, _, World.drewN_drewN _ _ _⟩ | exact ⟨rfl, _, Eq.trans (World.drewN_drewN _ _ _) (congrArg (World.drewN _) (Nat.add_assoc _ _ _))⟩))); try go_wp2_with (first | (go_at_call 60; (with_reducible refine (verditerref06_SameInts.calls k1 _ _ ((rd_T53 l0 x5_1).f0) _ _ ((rd_T53 l1 x5_1).f0) true _ ?side1 ?side2 ?side3 ?side4 A7.out).mono ?_); (case side1 => repeat (first | exact HR501_0.out | (with_reducible refine Kd.C_alloc ?_ _) | (with_reducible refine Kd.C_drewN ?_ _) | (with_reducible refine Kd.C_drew ?_))); (case side2 => exact HC501_0.out); (case side3 => repeat (first | exact HR502_0.out | (with_reducible refine Kd.C_alloc ?_ _) | (with_reducible refine Kd.C_drewN ?_ _) | (with_reducible refine Kd.C_drew ?_))); (case side4 => exact HC502_0.out); rintro e w' ⟨rfl, ⟨nd, rfl⟩⟩; (try first | exact ⟨rfl, _, World.drewN_drewN _ _ _⟩ | exact ⟨rfl, _, Eq.trans (World.drewN_drewN _ _ _) (congrArg (World.drewN _) (Nat.add_assoc _ _ _))⟩); have p504 : 0 ≤ (x5_1 : Int) := of_decide_eq_true (by first | (with_reducible assumption) | assumption); have q504 : x5_1 < (l0.length : Int) := of_decide_eq_true (by first | (with_reducible assumption) | assumption); obtain ⟨ad504, A504_0, c504_0, A504_1, c504_1, e504, hx504_0, hx504_1, hl504_0, hi504_0, hl504_1, hi504_1⟩ := at_T53 HR0.out x5_1 p504 q504; obtain rfl : ad501 = ad504 := (by injection e504); have HR504_0 := Aside0.mk hi504_0; have HC504_0 := Aside0.mk hl504_0; clear hi504_0 hl504_0; have HR504_1 := Aside0.mk hi504_1; have HC504_1 := Aside0.mk hl504_1; clear hi504_1 hl504_1; replace p504 := eq_true p504; replace q504 := eq_true q504; have ea_ := Option.some.inj (hx501_0.symm.trans hx504_0); injection ea_ with ea_ en_ ec_; subst ea_; subst ec_; clear en_; have ea_ := Option.some.inj (hx501_1.symm.trans hx504_1); injection ea_ with ea_ en_ ec_; subst ea_; subst ec_; clear en_; have p505 : 0 ≤ (x5_1 : Int) := of_decide_eq_true (by first | (with_reducible assumption) | assumption); have q505 : x5_1 < (l1.length : Int) := of_decide_eq_true (by first | (with_reducible assumption) | assumption); obtain ⟨ad505, A505_0, c505_0, A505_1, c505_1, e505, hx505_0, hx505_1, hl505_0, hi505_0, hl505_1, hi505_1⟩ := at_T53 HR1.out x5_1 p505 q505; obtain rfl : ad502 = ad505 := (by injection e505); have HR505_0 := Aside0.mk hi505_0; have HC505_0 := Aside0.mk hl505_0; clear hi505_0 hl505_0; have HR505_1 := Aside0.mk hi505_1; have HC505_1 := Aside0.mk hl505_1; clear hi505_1 hl505_1; replace p505 := eq_true p505; replace q505 := eq_true q505; have ea_ := Option.some.inj (hx502_0.symm.trans hx505_0); injection ea_ with ea_ en_ ec_; subst ea_; subst ec_; clear en_; have ea_ := Option.some.inj (hx502_1.symm.trans hx505_1); injection ea_ with ea_ en_ ec_; subst ea_; subst ec_; clear en_) | (go_at_call 60; (with_reducible refine (verditerref06_SameInts.calls k1 _ _ ((rd_T53 l0 x5_1).f1) _ _ ((rd_T53 l1 x5_1).f1) true _ ?side1 ?side2 ?side3 ?side4 A9.out).mono ?_); (case side1 => repeat (first | exact HR504_1.out | (with_reducible refine Kd.C_alloc ?_ _) | (with_reducible refine Kd.C_drewN ?_ _) | (with_reducible refine Kd.C_drew ?_))); (case side2 => exact HC504_1.out); (case side3 => repeat (first | exact HR505_1.out | (with_reducible refine Kd.C_alloc ?_ _) | (with_reducible refine Kd.C_drewN ?_ _) | (with_reducible refine Kd.C_drew ?_))); (case side4 => exact HC505_1.out); rintro e w' ⟨rfl, ⟨nd, rfl⟩⟩; (try first | exact ⟨rfl, _, World.drewN_drewN _ _ _⟩ | exact ⟨rfl, _, Eq.trans (World.drewN_drewN _ _ _) (congrArg (World.drewN _) (Nat.add_assoc _ _ _))⟩))))
                  go_roundg k1
                  case measure => have := HK1.out; omega
                  case rel => exact ⟨(wrap64 (x5_1 + 1)), (by first | rfl | (simp; done) | (simp [*]; done)), H', ⟨by have := HK1.out; omega⟩, by repeat (first | exact Drawn0.refl _ | apply Drawn0.step)⟩
                · replace c10 := Bool.eq_false_iff.mpr c10
                  subst c10
                  have H1 : (some false) = some r := by rw [if_neg (show ¬ (false = true) by decide)] at H; exact H
                  clear H
                  have H := H1
                  clear H1
                  obtain rfl := Option.some.inj H
                  have p501 : 0 ≤ (x5_1 : Int) := of_decide_eq_true (by first | (with_reducible assumption) | assumption)
                  have q501 : x5_1 < (l0.length : Int) := of_decide_eq_true (by first | (with_reducible assumption) | assumption)
                  obtain ⟨ad501, A501_0, c501_0, A501_1, c501_1, e501, hx501_0, hx501_1, hl501_0, hi501_0, hl501_1, hi501_1⟩ := at_T53 HR0.out x5_1 p501 q501
                  cases e501
                  have HR501_0 := Aside0.mk hi501_0
                  have HC501_0 := Aside0.mk hl501_0
                  clear hi501_0 hl501_0
                  have HR501_1 := Aside0.mk hi501_1
                  have HC501_1 := Aside0.mk hl501_1
                  clear hi501_1 hl501_1
                  replace p501 := eq_true p501
                  replace q501 := eq_true q501
                  have p502 : 0 ≤ (x5_1 : Int) := of_decide_eq_true (by first | (with_reducible assumption) | assumption)
                  have q502 : x5_1 < (l1.length : Int) := of_decide_eq_true (by first | (with_reducible assumption) | assumption)
                  obtain ⟨ad502, A502_0, c502_0, A502_1, c502_1, e502, hx502_0, hx502_1, hl502_0, hi502_0, hl502_1, hi502_1⟩ := at_T53 HR1.out x5_1 p502 q502
                  cases e502
                  have HR502_0 := Aside0.mk hi502_0
                  have HC502_0 := Aside0.mk hl502_0
                  clear hi502_0 hl502_0
                  have HR502_1 := Aside0.mk hi502_1
                  have HC502_1 := Aside0.mk hl502_1
                  clear hi502_1 hl502_1
                  replace p502 := eq_true p502
                  replace q502 := eq_true q502
                  go_wp2_with (first | (go_at_call 60; (with_reducible refine (verditerref06_SameInts.calls k1 _ _ ((rd_T53 l0 x5_1).f0) _ _ ((rd_T53 l1 x5_1).f0) true _ ?side1 ?side2 ?side3 ?side4 A7.out).mono ?_); (case side1 => repeat (first | exact HR501_0.out | (with_reducible refine Kd.C_alloc ?_ _) | (with_reducible refine Kd.C_drewN ?_ _) | (with_reducible refine Kd.C_drew ?_))); (case side2 => exact HC501_0.out); (case side3 => repeat (first | exact HR502_0.out | (with_reducible refine Kd.C_alloc ?_ _) | (with_reducible refine Kd.C_drewN ?_ _) | (with_reducible refine Kd.C_drew ?_))); (case side4 => exact HC502_0.out); rintro e w' ⟨rfl, ⟨nd, rfl⟩⟩; (try first | exact ⟨rfl, _, World.drewN_drewN _ _ _⟩ | exact ⟨rfl, _, Eq.trans (World.drewN_drewN _ _ _) (congrArg (World.drewN _) (Nat.add_assoc _ _ _))⟩); have p504 : 0 ≤ (x5_1 : Int) := of_decide_eq_true (by first | (with_reducible assumption) | assumption); have q504 : x5_1 < (l0.length : Int) := of_decide_eq_true (by first | (with_reducible assumption) | assumption); obtain ⟨ad504, A504_0, c504_0, A504_1, c504_1, e504, hx504_0, hx504_1, hl504_0, hi504_0, hl504_1, hi504_1⟩ := at_T53 HR0.out x5_1 p504 q504; obtain rfl : ad501 = ad504 := (by injection e504); have HR504_0 := Aside0.mk hi504_0; have HC504_0 := Aside0.mk hl504_0; clear hi504_0 hl504_0; have HR504_1 := Aside0.mk hi504_1; have HC504_1 := Aside0.mk hl504_1; clear hi504_1 hl504_1; replace p504 := eq_true p504; replace q504 := eq_true q504; have ea_ := Option.some.inj (hx501_0.symm.trans hx504_0); injection ea_ with ea_ en_ ec_; subst ea_; subst ec_; clear en_; have ea_ := Option.some.inj (hx501_1.symm.trans hx504_1); injection ea_ with ea_ en_ ec_; subst ea_; subst ec_; clear en_; have p505 : 0 ≤ (x5_1 : Int) := of_decide_eq_true (by first | (with_reducible assumption) | assumption); have q505 : x5_1 < (l1.length : Int) := of_decide_eq_true (by first | (with_reducible assumption) | assumption); obtain ⟨ad505, A505_0, c505_0, A505_1, c505_1, e505, hx505_0, hx505_1, hl505_0, hi505_0, hl505_1, hi505_1⟩ := at_T53 HR1.out x5_1 p505 q505; obtain rfl : ad502 = ad505 := (by injection e505); have HR505_0 := Aside0.mk hi505_0; have HC505_0 := Aside0.mk hl505_0; clear hi505_0 hl505_0; have HR505_1 := Aside0.mk hi505_1; have HC505_1 := Aside0.mk hl505_1; clear hi505_1 hl505_1; replace p505 := eq_true p505; replace q505 := eq_true q505; have ea_ := Option.some.inj (hx502_0.symm.trans hx505_0); injection ea_ with ea_ en_ ec_; subst ea_; subst ec_; clear en_; have ea_ := Option.some.inj (hx502_1.symm.trans hx505_1); injection ea_ with ea_ en_ ec_; subst ea_; subst ec_; clear en_) | (go_at_call 60; (with_reducible refine (verditerref06_SameInts.calls k1 _ _ ((rd_T53 l0 x5_1).f1) _ _ ((rd_T53 l1 x5_1).f1) false _ ?side1 ?side2 ?side3 ?side4 A9.out).mono ?_); (case side1 => repeat (first | exact HR504_1.out | (with_reducible refine Kd.C_alloc ?_ _) | (with_reducible refine Kd.C_drewN ?_ _) | (with_reducible refine Kd.C_drew ?_))); (case side2 => exact HC504_1.out); (case side3 => repeat (first | exact HR505_1.out | (with_reducible refine Kd.C_alloc ?_ _) | (with_reducible refine Kd.C_drewN ?_ _) | (with_reducible refine Kd.C_drew ?_))); (case side4 => exact HC505_1.out); rintro e w' ⟨rfl, ⟨nd, rfl⟩⟩; (try first | exact ⟨rfl, _, World.drewN_drewN _ _ _⟩ | exact ⟨rfl, _, Eq.trans (World.drewN_drewN _ _ _) (congrArg (World.drewN _) (Nat.add_assoc _ _ _))⟩)))
                  repeat (go_quiet (first | (go_at_call 60; (with_reducible refine (verditerref06_SameInts.calls k1 _ _ ((rd_T53 l0 x5_1).f0) _ _ ((rd_T53 l1 x5_1).f0) true _ ?side1 ?side2 ?side3 ?side4 A7.out).mono ?_); (case side1 => repeat (first | exact HR501_0.out | (with_reducible refine Kd.C_alloc ?_ _) | (with_reducible refine Kd.C_drewN ?_ _) | (with_reducible refine Kd.C_drew ?_))); (case side2 => exact HC501_0.out); (case side3 => repeat (first | exact HR502_0.out | (with_reducible refine Kd.C_alloc ?_ _) | (with_reducible refine Kd.C_drewN ?_ _) | (with_reducible refine Kd.C_drew ?_))); (case side4 => exact HC502_0.out); rintro e w' ⟨rfl, ⟨nd, rfl⟩⟩; (try first | exact ⟨rfl, _, World.drewN_drewN _ _ _⟩ | exact ⟨rfl, _, Eq.trans (World.drewN_drewN _ _ _) (congrArg (World.drewN _) (Nat.add_assoc _ _ _))⟩); have p504 : 0 ≤ (x5_1 : Int) := of_decide_eq_true (by first | (with_reducible assumption) | assumption); have q504 : x5_1 < (l0.length : Int) := of_decide_eq_true (by first | (with_reducible assumption) | assumption); obtain ⟨ad504, A504_0, c504_0, A504_1, c504_1, e504, hx504_0, hx504_1, hl504_0, hi504_0, hl504_1, hi504_1⟩ := at_T53 HR0.out x5_1 p504 q504; obtain rfl : ad501 = ad504 := (by injection e504); have HR504_0 := Aside0.mk hi504_0; have HC504_0 := Aside0.mk hl504_0; clear hi504_0 hl504_0; have HR504_1 := Aside0.mk hi504_1; have HC504_1 := Aside0.mk hl504_1; clear hi504_1 hl504_1; replace p504 := eq_true p504; replace q504 := eq_true q504; have ea_ := Option.some.inj (hx501_0.symm.trans hx504_0); injection ea_ with ea_ en_ ec_; subst ea_; subst ec_; clear en_; have ea_ := Option.some.inj (hx501_1.symm.trans hx504_1); injection ea_ with ea_ en_ ec_; subst ea_; subst ec_; clear en_; have p505 : 0 ≤ (x5_1 : Int) := of_decide_eq_true (by first | (with_reducible assumption) | assumption); have q505 : x5_1 < (l1.length : Int) := of_decide_eq_true (by first | (with_reducible assumption) | assumption); obtain ⟨ad505, A505_0, c505_0, A505_1, c505_1, e505, hx505_0, hx505_1, hl505_0, hi505_0, hl505_1, hi505_1⟩ := at_T53 HR1.out x5_1 p505 q505; obtain rfl : ad502 = ad505 := (by injection e505); have HR505_0 := Aside0.mk hi505_0; have HC505_0 := Aside0.mk hl505_0; clear hi505_0 hl505_0; have HR505_1 := Aside0.mk hi505_1; have HC505_1 := Aside0.mk hl505_1; clear hi505_1 hl505_1; replace p505 := eq_true p505; replace q505 := eq_true q505; have ea_ := Option.some.inj (hx502_0.symm.trans hx505_0); injection ea_ with ea_ en_ ec_; subst ea_; subst ec_; clear en_; have ea_ := Option.some.inj (hx502_1.symm.trans hx505_1); injection ea_ with ea_ en_ ec_; subst ea_; subst ec_; clear en_) | (go_at_call 60; (with_reducible refine (verditerref06_SameInts.calls k1 _ _ ((rd_T53 l0 x5_1).f1) _ _ ((rd_T53 l1 x5_1).f1) false _ ?side1 ?side2 ?side3 ?side4 A9.out).mono ?_); (case side1 => repeat (first | exact HR504_1.out | (with_reducible refine Kd.C_alloc ?_ _) | (with_reducible refine Kd.C_drewN ?_ _) | (with_reducible refine Kd.C_drew ?_))); (case side2 => exact HC504_1.out); (case side3 => repeat (first | exact HR505_1.out | (with_reducible refine Kd.C_alloc ?_ _) | (with_reducible refine Kd.C_drewN ?_ _) | (with_reducible refine Kd.C_drew ?_))); (case side4 => exact HC505_1.out); rintro e w' ⟨rfl, ⟨nd, rfl⟩⟩; (try first | exact ⟨rfl, _, World.drewN_drewN _ _ _⟩ | exact ⟨rfl, _, Eq.trans (World.drewN_drewN _ _ _) (congrArg (World.drewN _) (Nat.add_assoc _ _ _))⟩))); try go_wp2_with (first | (go_at_call 60; (with_reducible refine (verditerref06_SameInts.calls k1 _ _ ((rd_T53 l0 x5_1).f0) _ _ ((rd_T53 l1 x5_1).f0) true _ ?side1 ?side2 ?side3 ?side4 A7.out).mono ?_); (case side1 => repeat (first | exact HR501_0.out | (with_reducible refine Kd.C_alloc ?_ _) | (with_reducible refine Kd.C_drewN ?_ _) | (with_reducible refine Kd.C_drew ?_))); (case side2 => exact HC501_0.out); (case side3 => repeat (first | exact HR502_0.out | (with_reducible refine Kd.C_alloc ?_ _) | (with_reducible refine Kd.C_drewN ?_ _) | (with_reducible refine Kd.C_drew ?_))); (case side4 => exact HC502_0.out); rintro e w' ⟨rfl, ⟨nd, rfl⟩⟩; (try first | exact ⟨rfl, _, World.drewN_drewN _ _ _⟩ | exact ⟨rfl, _, Eq.trans (World.drewN_drewN _ _ _) (congrArg (World.drewN _) (Nat.add_assoc _ _ _))⟩); have p504 : 0 ≤ (x5_1 : Int) := of_decide_eq_true (by first | (with_reducible assumption) | assumption); have q504 : x5_1 < (l0.length : Int) := of_decide_eq_true (by first | (with_reducible assumption) | assumption); obtain ⟨ad504, A504_0, c504_0, A504_1, c504_1, e504, hx504_0, hx504_1, hl504_0, hi504_0, hl504_1, hi504_1⟩ := at_T53 HR0.out x5_1 p504 q504; obtain rfl : ad501 = ad504 := (by injection e504); have HR504_0 := Aside0.mk hi504_0; have HC504_0 := Aside0.mk hl504_0; clear hi504_0 hl504_0; have HR504_1 := Aside0.mk hi504_1; have HC504_1 := Aside0.mk hl504_1; clear hi504_1 hl504_1; replace p504 := eq_true p504; replace q504 := eq_true q504; have ea_ := Option.some.inj (hx501_0.symm.trans hx504_0); injection ea_ with ea_ en_ ec_; subst ea_; subst ec_; clear en_; have ea_ := Option.some.inj (hx501_1.symm.trans hx504_1); injection ea_ with ea_ en_ ec_; subst ea_; subst ec_; clear en_; have p505 : 0 ≤ (x5_1 : Int) := of_decide_eq_true (by first | (with_reducible assumption) | assumption); have q505 : x5_1 < (l1.length : Int) := of_decide_eq_true (by first | (with_reducible assumption) | assumption); obtain ⟨ad505, A505_0, c505_0, A505_1, c505_1, e505, hx505_0, hx505_1, hl505_0, hi505_0, hl505_1, hi505_1⟩ := at_T53 HR1.out x5_1 p505 q505; obtain rfl : ad502 = ad505 := (by injection e505); have HR505_0 := Aside0.mk hi505_0; have HC505_0 := Aside0.mk hl505_0; clear hi505_0 hl505_0; have HR505_1 := Aside0.mk hi505_1; have HC505_1 := Aside0.mk hl505_1; clear hi505_1 hl505_1; replace p505 := eq_true p505; replace q505 := eq_true q505; have ea_ := Option.some.inj (hx502_0.symm.trans hx505_0); injection ea_ with ea_ en_ ec_; subst ea_; subst ec_; clear en_; have ea_ := Option.some.inj (hx502_1.symm.trans hx505_1); injection ea_ with ea_ en_ ec_; subst ea_; subst ec_; clear en_) | (go_at_call 60; (with_reducible refine (verditerref06_SameInts.calls k1 _ _ ((rd_T53 l0 x5_1).f1) _ _ ((rd_T53 l1 x5_1).f1) false _ ?side1 ?side2 ?side3 ?side4 A9.out).mono ?_); (case side1 => repeat (first | exact HR504_1.out | (with_reducible refine Kd.C_alloc ?_ _) | (with_reducible refine Kd.C_drewN ?_ _) | (with_reducible refine Kd.C_drew ?_))); (case side2 => exact HC504_1.out); (case side3 => repeat (first | exact HR505_1.out | (with_reducible refine Kd.C_alloc ?_ _) | (with_reducible refine Kd.C_drewN ?_ _) | (with_reducible refine Kd.C_drew ?_))); (case side4 => exact HC505_1.out); rintro e w' ⟨rfl, ⟨nd, rfl⟩⟩; (try first | exact ⟨rfl, _, World.drewN_drewN _ _ _⟩ | exact ⟨rfl, _, Eq.trans (World.drewN_drewN _ _ _) (congrArg (World.drewN _) (Nat.add_assoc _ _ _))⟩))))
                  go_ret
                  exact ⟨by first | rfl | (simp; done) | (simp [*]; done), by repeat (first | exact Drawn0.refl _ | apply Drawn0.step)⟩
              · replace c8 := Bool.eq_false_iff.mpr c8
                subst c8
                have H1 : (some false) = some r := by rw [if_neg (show ¬ (false = true) by decide)] at H; exact H
                clear H
                have H := H1
                clear H1
                obtain rfl := Option.some.inj H
                have p501 : 0 ≤ (x5_1 : Int) := of_decide_eq_true (by first | (with_reducible assumption) | assumption)
                have q501 : x5_1 < (l0.length : Int) := of_decide_eq_true (by first | (with_reducible assumption) | assumption)
                obtain ⟨ad501, A501_0, c501_0, A501_1, c501_1, e501, hx501_0, hx501_1, hl501_0, hi501_0, hl501_1, hi501_1⟩ := at_T53 HR0.out x5_1 p501 q501
                cases e501
                have HR501_0 := Aside0.mk hi501_0
                have HC501_0 := Aside0.mk hl501_0
                clear hi501_0 hl501_0
                have HR501_1 := Aside0.mk hi501_1
                have HC501_1 := Aside0.mk hl501_1
                clear hi501_1 hl501_1
                replace p501 := eq_true p501
                replace q501 := eq_true q501
                have p502 : 0 ≤ (x5_1 : Int) := of_decide_eq_true (by first | (with_reducible assumption) | assumption)
                have q502 : x5_1 < (l1.length : Int) := of_decide_eq_true (by first | (with_reducible assumption) | assumption)
                obtain ⟨ad502, A502_0, c502_0, A502_1, c502_1, e502, hx502_0, hx502_1, hl502_0, hi502_0, hl502_1, hi502_1⟩ := at_T53 HR1.out x5_1 p502 q502
                cases e502
                have HR502_0 := Aside0.mk hi502_0
                have HC502_0 := Aside0.mk hl502_0
                clear hi502_0 hl502_0
                have HR502_1 := Aside0.mk hi502_1
                have HC502_1 := Aside0.mk hl502_1
                clear hi502_1 hl502_1
                replace p502 := eq_true p502
                replace q502 := eq_true q502
                go_wp2_with (first | (go_at_call 60; (with_reducible refine (verditerref06_SameInts.calls k1 _ _ ((rd_T53 l0 x5_1).f0) _ _ ((rd_T53 l1 x5_1).f0) false _ ?side1 ?side2 ?side3 ?side4 A7.out).mono ?_); (case side1 => repeat (first | exact HR501_0.out | (with_reducible refine Kd.C_alloc ?_ _) | (with_reducible refine Kd.C_drewN ?_ _) | (with_reducible refine Kd.C_drew ?_))); (case side2 => exact HC501_0.out); (case side3 => repeat (first | exact HR502_0.out | (with_reducible refine Kd.C_alloc ?_ _) | (with_reducible refine Kd.C_drewN ?_ _) | (with_reducible refine Kd.C_drew ?_))); (case side4 => exact HC502_0.out); rintro e w' ⟨rfl, ⟨nd, rfl⟩⟩; (try first | exact ⟨rfl, _, World.drewN_drewN _ _ _⟩ | exact ⟨rfl, _, Eq.trans (World.drewN_drewN _ _ _) (congrArg (World.drewN _) (Nat.add_assoc _ _ _))⟩)))
                repeat (go_quiet (first | (go_at_call 60; (with_reducible refine (verditerref06_SameInts.calls k1 _ _ ((rd_T53 l0 x5_1).f0) _ _ ((rd_T53 l1 x5_1).f0) false _ ?side1 ?side2 ?side3 ?side4 A7.out).mono ?_); (case side1 => repeat (first | exact HR501_0.out | (with_reducible refine Kd.C_alloc ?_ _) | (with_reducible refine Kd.C_drewN ?_ _) | (with_reducible refine Kd.C_drew ?_))); (case side2 => exact HC501_0.out); (case side3 => repeat (first | exact HR502_0.out | (with_reducible refine Kd.C_alloc ?_ _) | (with_reducible refine Kd.C_drewN ?_ _) | (with_reducible refine Kd.C_drew ?_))); (case side4 => exact HC502_0.out); rintro e w' ⟨rfl, ⟨nd, rfl⟩⟩; (try first | exact ⟨rfl, _, World.drewN_drewN _ _ _⟩ | exact ⟨rfl, _, Eq.trans (World.drewN_drewN _ _ _) (congrArg (World.drewN _) (Nat.add_assoc _ _ _))⟩))); try go_wp2_with (first | (go_at_call 60; (with_reducible refine (verditerref06_SameInts.calls k1 _ _ ((rd_T53 l0 x5_1).f0) _ _ ((rd_T53 l1 x5_1).f0) false _ ?side1 ?side2 ?side3 ?side4 A7.out).mono ?_); (case side1 => repeat (first | exact HR501_0.out | (with_reducible refine Kd.C_alloc ?_ _) | (with_reducible refine Kd.C_drewN ?_ _) | (with_reducible refine Kd.C_drew ?_))); (case side2 => exact HC501_0.out); (case side3 => repeat (first | exact HR502_0.out | (with_reducible refine Kd.C_alloc ?_ _) | (with_reducible refine Kd.C_drewN ?_ _) | (with_reducible refine Kd.C_drew ?_))); (case side4 => exact HC502_0.out); rintro e w' ⟨rfl, ⟨nd, rfl⟩⟩; (try first | exact ⟨rfl, _, World.drewN_drewN _ _ _⟩ | exact ⟨rfl, _, Eq.trans (World.drewN_drewN _ _ _) (congrArg (World.drewN _) (Nat.add_assoc _ _ _))⟩))))
                go_ret
                exact ⟨by first | rfl | (simp; done) | (simp [*]; done), by repeat (first | exact Drawn0.refl _ | apply Drawn0.step)⟩
            · rw [if_neg c6] at H
              exact absurd H (by simp)
          · rw [if_neg c5] at H
            exact absurd H (by simp)
        · rw [if_neg c4] at H
          have c4b0 : decide (x5_1 < (l0.length : Int)) = false := decide_eq_false c4
          clear c4
          obtain rfl := Option.some.inj H
          go_wp2
          repeat (go_quiet (fail); try go_wp2)
          go_ret
          exact ⟨by first | rfl | (simp; done) | (simp [*]; done), by repeat (first | exact Drawn0.refl _ | apply Drawn0.step)⟩
  · rw [if_neg c3] at H
    have c3b0 : ((l0.length : Int) == (l1.length : Int)) = false := beq_eq_false_iff_ne.mpr c3
    have c3b1 : ((l0.length : Int) != (l1.length : Int)) = true := bne_iff_ne.mpr c3
    have c3b2 : (l0.length == l1.length) = false := by first | simpa using c3 | (simp at c3 ⊢; omega)
    obtain rfl := Option.some.inj H
    go_enter Try.func68, Try.ntmps68
    go_wp2
    repeat (go_quiet (fail); try go_wp2)
    go_ret
    exact ⟨by first | rfl | (simp; done) | (simp [*]; done), by repeat (first | exact Drawn0.refl _ | apply Drawn0.step)⟩

end Go.Proofs.Ytdbeochifofdoaa.X
end

section
-- Written by a program of this session (wip/hook.py, which runs the kit's print.py with contracts proved by hand). Not trusted: Lean checks it.
namespace Go.Proofs.Ytdbeochifofdoaa.X
open Go.RowKit Go.Proofs.YtdbeochifofdoaaW.PrintWords Go.Proofs.YtdbeochifofdoaaW.PrintLast Go.Proofs.YtdbeochifofdoaaW.PrintMore
attribute [local go_sem] max2_int min2_int max_two min_two max_three min_three max_four min_four   -- for this text's walks alone
set_option linter.unusedVariables false
set_option linter.unusedSimpArgs false

/-! ### verditerref06_has: function 101 -/
def verditerref06_has.l0 : Nat → List Int → Int → Int → Option (Bool)
  | 0, _, _, _ => none
  | k + 1, x0, x1, x5 => if x5 < (x0.length : Int) then (if 0 ≤ x5 then (if (rd x0 x5) = x1 then (some true) else (verditerref06_has.l0 k x0 x1 (wrap64 (x5 + 1)))) else (none)) else (some false)
def verditerref06_has.f (k : Nat) (l0 : List Int) (a1 : Int) : Option (Bool) := verditerref06_has.l0 k l0 a1 0
set_option maxHeartbeats 8000000 in
set_option maxRecDepth 100000 in
theorem verditerref06_has.calls (k : Nat) (A0 : Option Addr) (c0 : Nat) (l0 : List Int) (a1 : Int) (r : Bool) (w : World) (hr0 : Kd.C (Kd.int .i64) w A0 l0.length l0) (hc0 : l0.length ≤ c0) (h : verditerref06_has.f k l0 a1 = some r) :
    Calls Try.prog 101 #[.slice A0 l0.length c0, .int .i64 a1] w fun e w' => e = .returned (.bool r) ∧ Drawn0 w w' := by
  have HR0 := Aside0.mk hr0
  have HC0 := Aside0.mk hc0
  clear hr0 hc0
  have H : (verditerref06_has.l0 k l0 a1 0) = some r := h
  clear h
  have H' := Aside0.mk H
  clear H
  go_enter Try.func101, Try.ntmps101
  go_wp2
  go_loopg [5] k (fun kq v5 w' => ∃ (x5_1 : Int), v5 = .int .i64 x5_1 ∧ Aside0 (verditerref06_has.l0 kq l0 a1 x5_1 = some r) ∧ Aside0 (kq ≤ k) ∧ Drawn0 w w')
  case atStart => exact ⟨(0), (by first | rfl | (simp; done) | (simp [*]; done)), H', ⟨Nat.le_refl _⟩, by repeat (first | exact Drawn0.refl _ | apply Drawn0.step)⟩
  case round =>
    clear H'
    try clear c1
    try clear p2
    obtain ⟨x5_1, rfl, HA, HK1, ⟨m1, rfl⟩⟩ := hrel
    cases gk with
    | zero => exact absurd HA.out (by simp [verditerref06_has.l0])
    | succ k1 =>
      have H := HA.out
      clear HA
      simp only [verditerref06_has.l0] at H
      by_cases c3 : x5_1 < (l0.length : Int)
      · rw [if_pos c3] at H
        have c3b0 : decide (x5_1 < (l0.length : Int)) = true := decide_eq_true c3
        clear c3
        by_cases c4 : 0 ≤ x5_1
        · rw [if_pos c4] at H
          have c4b0 : decide (0 ≤ x5_1) = true := decide_eq_true c4
          clear c4
          by_cases c5 : (rd l0 x5_1) = a1
          · rw [if_pos c5] at H
            have c5b0 : ((rd l0 x5_1) == a1) = true := beq_iff_eq.mpr c5
            have c5b1 : ((rd l0 x5_1) != a1) = false := bne_eq_false_iff_eq.mpr c5
            clear c5
            obtain rfl := Option.some.inj H
            have p183 : 0 ≤ (x5_1 : Int) := of_decide_eq_true (by first | (with_reducible assumption) | assumption)
            have q183 : x5_1 < (l0.length : Int) := of_decide_eq_true (by first | (with_reducible assumption) | assumption)
            obtain ⟨ad183, e183, hx183_0⟩ := Kd.at_int HR0.out x5_1 p183 q183
            cases e183
            replace p183 := eq_true p183
            replace q183 := eq_true q183
            go_wp2
            go_ret
            exact ⟨by first | rfl | (simp; done) | (simp [*]; done), by repeat (first | exact Drawn0.refl _ | apply Drawn0.step)⟩
          · rw [if_neg c5] at H
            have c5b0 : ((rd l0 x5_1) == a1) = false := beq_eq_false_iff_ne.mpr c5
            have c5b1 : ((rd l0 x5_1) != a1) = true := bne_iff_ne.mpr c5
            have H' := Aside0.mk H
            clear H
            have p183 : 0 ≤ (x5_1 : Int) := of_decide_eq_true (by first | (with_reducible assumption) | assumption)
            have q183 : x5_1 < (l0.length : Int) := of_decide_eq_true (by first | (with_reducible assumption) | assumption)
            obtain ⟨ad183, e183, hx183_0⟩ := Kd.at_int HR0.out x5_1 p183 q183
            cases e183
            replace p183 := eq_true p183
            replace q183 := eq_true q183
            go_wp2
            go_roundg k1
            case measure => have := HK1.out; omega
            case rel => exact ⟨(wrap64 (x5_1 + 1)), (by first | rfl | (simp; done) | (simp [*]; done)), H', ⟨by have := HK1.out; omega⟩, by repeat (first | exact Drawn0.refl _ | apply Drawn0.step)⟩
        · rw [if_neg c4] at H
          exact absurd H (by simp)
      · rw [if_neg c3] at H
        have c3b0 : decide (x5_1 < (l0.length : Int)) = false := decide_eq_false c3
        clear c3
        obtain rfl := Option.some.inj H
        go_wp2
        go_ret
        exact ⟨by first | rfl | (simp; done) | (simp [*]; done), by repeat (first | exact Drawn0.refl _ | apply Drawn0.step)⟩

end Go.Proofs.Ytdbeochifofdoaa.X
end

section
-- Written by a program of this session (wip/hook.py, which runs the kit's print.py with contracts proved by hand). Not trusted: Lean checks it.
namespace Go.Proofs.Ytdbeochifofdoaa.X
open Go.RowKit Go.Proofs.YtdbeochifofdoaaW.PrintWords Go.Proofs.YtdbeochifofdoaaW.PrintLast Go.Proofs.YtdbeochifofdoaaW.PrintMore
attribute [local go_sem] max2_int min2_int max_two min_two max_three min_three max_four min_four   -- for this text's walks alone
set_option linter.unusedVariables false
set_option linter.unusedSimpArgs false

/-! ### verditerref06_within: function 82 -/
def verditerref06_within.f (a0 : Int) (a1 : Int) (a2 : Int) : Option (Bool) := if a0 ≥ a1 then (some (decide (a0 ≤ a2))) else (some false)
set_option maxHeartbeats 8000000 in
set_option maxRecDepth 100000 in
theorem verditerref06_within.calls (a0 : Int) (a1 : Int) (a2 : Int) (r : Bool) (w : World) (h : verditerref06_within.f a0 a1 a2 = some r) :
    Calls Try.prog 82 #[.int .i64 a0, .int .i64 a1, .int .i64 a2] w fun e w' => e = .returned (.bool r) ∧ Drawn0 w w' := by
  have H : (if a0 ≥ a1 then (some (decide (a0 ≤ a2))) else (some false)) = some r := h
  clear h
  by_cases c4 : a0 ≥ a1
  · rw [if_pos c4] at H
    have c4b0 : decide (a1 ≤ a0) = true := decide_eq_true c4
    clear c4
    obtain rfl := Option.some.inj H
    go_enter Try.func82, Try.ntmps82
    go_wp2
    go_ret
    exact ⟨by first | rfl | (simp; done) | (simp [*]; done), by repeat (first | exact Drawn0.refl _ | apply Drawn0.step)⟩
  · rw [if_neg c4] at H
    have c4b0 : decide (a1 ≤ a0) = false := decide_eq_false c4
    clear c4
    obtain rfl := Option.some.inj H
    go_enter Try.func82, Try.ntmps82
    go_wp2
    go_ret
    exact ⟨by first | rfl | (simp; done) | (simp [*]; done), by repeat (first | exact Drawn0.refl _ | apply Drawn0.step)⟩

-- GIVEN: function 100 (verditerref06_isSet): YtdbeochifofdoaaG100

end Go.Proofs.Ytdbeochifofdoaa.X
end
