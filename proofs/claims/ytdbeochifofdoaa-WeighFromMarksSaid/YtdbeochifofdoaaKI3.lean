/- The law WeighFromMarks of the given program: the plan with given marks.
Its conditions: none beyond the statement's own. Part 4 of 6 of the proof. -/
import Derived.Handy
import Derived.WalkSpells
import Derived.Shelf.Abstract
import Derived.Deep.RegionHeld3
import Derived.ChangeArms
import Derived.ChangeSlices
import Derived.SizedLaws
import Derived.Test.YtdbeochifofdoaaKI2
section
namespace Go.Proofs.Ytdbeochifofdoaa.X
open Go.RowKit Go.Proofs.YtdbeochifofdoaaW.PrintWords Go.Proofs.YtdbeochifofdoaaW.PrintLast Go.Proofs.YtdbeochifofdoaaW.PrintMore

set_option maxHeartbeats 2000000 in
set_option maxRecDepth 100000 in
theorem indexFunc119 (g : Nat) (lb : Array Value) (eg : ∀ args w, (callFunc g args).run Try.prog w = .ok (.enter g args) w) (p : List Int → Bool) (A0 : Option Addr) (c0 : Nat) (l0 : List (List Int)) (w : World)
    (hr0 : Kd.C (Kd.slice 3 (Kd.int .i64)) w A0 l0.length l0) (hp : ∀ (W : World) (x : List Int) (A : Option Addr) (c : Nat), x ∈ l0 → (Kd.int .i64).C W A x.length x → x.length ≤ c → Below w.heap.size w W → Calls Try.prog g (#[.slice A x.length c] ++ lb) W fun e w' => e = .returned (.bool (p x)) ∧ Below W.heap.size W w') :
    Calls Try.prog 119 #[.slice A0 l0.length c0, .func (.func g) #[] lb] w fun e w' => e = .returned (.int .i64 (ixf p l0 0)) ∧ Below w.heap.size w w' := by
  have HR := Aside0.mk hr0
  have HP := Aside0.mk hp
  have HM := Aside0.mk (Kd.C_max hr0)
  clear hr0 hp
  have hlen : l0.length ≤ 9223372036854775807 := HM.out
  go_enter Try.func119, Try.ntmps119
  go_wp2
  go_loopg [5, 8] l0.length (fun gg _ s8 wr => ∃ kk : Nat, kk ≤ l0.length ∧ l0.length - kk ≤ gg ∧ s8 = .int .i64 kk ∧ Aside0 (Below w.heap.size w wr) ∧ Aside0 (ixf p (l0.drop kk) kk = ixf p l0 0))
  case atStart => exact ⟨0, Nat.zero_le _, by omega, rfl, ⟨Below.refl _ w⟩, ⟨by simp⟩⟩
  case round =>
    obtain ⟨kk, hkk, hg, rfl, BW, A⟩ := hrel
    by_cases hlt : kk < l0.length
    · have hltz : (kk : Int) < (l0.length : Int) := by omega
      obtain ⟨ad, A1, c1, e1, hcell, hle, hC⟩ := at_L5 HR.out kk (by omega) hltz
      cases e1
      have hmem : rd_L5 l0 kk ∈ l0 := by simp [rd_L5, List.getD_eq_getElem?_getD, List.getElem?_eq_getElem hlt]
      have hcall := HP.out wr (rd_L5 l0 kk) A1 c1 hmem (Kd.C_below hC BW.out) hle BW.out
      rw [show rd_L5 l0 (kk : Int) = l0.getD kk [] from rfl] at hcall hcell
      replace hcell := (BW.out.cell (World.block_lt_of_cell? w _ hcell)).trans hcell
      simp only [Int.toNat_natCast] at hcell
      clear hmem hle hC
      generalize hy : (l0.getD kk []) = y at *
      have B : Aside0 (l0.drop kk = y :: l0.drop (kk + 1)) := ⟨by rw [← hy]; exact drop_getD _ l0 kk hlt⟩
      clear hy
      cases hq : p y with
      | true =>
        rw [hq] at hcall
        have Q := Aside0.mk hq
        clear hq
        go_wp2_with (go_at_fn g; refine hcall.mono ?_; rintro e w' ⟨rfl, hb'⟩)
        go_ret
        refine ⟨?_, BW.out.trans (hb'.mono BW.out.size)⟩
        rw [← A.out, B.out, ixf, if_pos Q.out]
        rfl
      | false =>
        rw [hq] at hcall
        have Q := Aside0.mk hq
        clear hq
        go_wp2_with (go_at_fn g; refine hcall.mono ?_; rintro e w' ⟨rfl, hb'⟩)
        go_roundg (l0.length - (kk + 1))
        case measure => omega
        case rel =>
          refine ⟨kk + 1, by omega, by omega, by go_num, ⟨BW.out.trans (hb'.mono BW.out.size)⟩, ⟨?_⟩⟩
          rw [← A.out, B.out, ixf, if_neg (by rw [Q.out]; simp)]
          rfl
    · have hltz : ¬ (kk : Int) < (l0.length : Int) := by omega
      have hkl : l0.length ≤ kk := by omega
      go_wp2
      go_ret
      refine ⟨?_, BW.out⟩
      rw [← A.out, List.drop_eq_nil_of_le hkl]
      rfl
set_option maxHeartbeats 1000000 in
theorem containsFunc103 (g : Nat) (lb : Array Value) (eg : ∀ args w, (callFunc g args).run Try.prog w = .ok (.enter g args) w) (p : List Int → Bool) (A0 : Option Addr) (c0 : Nat) (l0 : List (List Int)) (w : World)
    (hr0 : Kd.C (Kd.slice 3 (Kd.int .i64)) w A0 l0.length l0) (hp : ∀ (W : World) (x : List Int) (A : Option Addr) (c : Nat), x ∈ l0 → (Kd.int .i64).C W A x.length x → x.length ≤ c → Below w.heap.size w W → Calls Try.prog g (#[.slice A x.length c] ++ lb) W fun e w' => e = .returned (.bool (p x)) ∧ Below W.heap.size W w') :
    Calls Try.prog 103 #[.slice A0 l0.length c0, .func (.func g) #[] lb] w fun e w' => e = .returned (.bool (l0.any p)) ∧ Below w.heap.size w w' := by
  rw [← ixf_any p l0 0 (by omega)]
  have HR := Aside0.mk hr0
  have HP := Aside0.mk hp
  clear hr0 hp
  go_enter Try.func103, Try.ntmps103
  go_wp2_with (go_at_call 119; refine (indexFunc119 g lb eg p A0 c0 l0 _ HR.out HP.out).mono ?_; rintro e w' ⟨rfl, hb'⟩)
  go_ret
  exact ⟨rfl, hb'⟩
end Go.Proofs.Ytdbeochifofdoaa.X
end

section
/-! Is a number of the list none of -1, 0, 1? -/
namespace Go.Proofs.Ytdbeochifofdoaa.X
def sideB (l : List Int) : Bool := l.any fun x => !(decide (-1 ≤ x) && decide (x ≤ 1))
end Go.Proofs.Ytdbeochifofdoaa.X
end

section
/-! weigh.FromMarks. -/
namespace Go.Proofs.Ytdbeochifofdoaa.X
open Go.RowKit Go.Proofs.YtdbeochifofdoaaW.PrintWords Go.Proofs.YtdbeochifofdoaaW.PrintLast Go.Proofs.YtdbeochifofdoaaW.PrintMore
set_option linter.unusedVariables false
set_option linter.unusedSimpArgs false

/-- The numbers, from n on, of the marks that have s at k. -/
def sideI (k : Nat) (s : Int) : Nat → List (List Int) → List Int
  | _, [] => []
  | n, m :: q => if m.getD k 0 = s then (n : Int) :: sideI k s (n + 1) q else sideI k s (n + 1) q
theorem sideI_len (k : Nat) (s : Int) : ∀ (l : List (List Int)) (n : Nat), (sideI k s n l).length ≤ l.length
  | [], _ => Nat.le_refl _
  | m :: q, n => by
    have := sideI_len k s q (n + 1)
    unfold sideI
    split
    · simp only [List.length_cons]; omega
    · simp only [List.length_cons]; omega
def lenB (l : List (List Int)) : Bool := l.any fun m => decide (3 < (m.length : Int))
def badRow (l : List (List Int)) (m : List Int) : Bool := (m.length != (l.getD 0 []).length) || sideB m
/-- The weighings from k on, d of them. -/
def fromR (l : List (List Int)) : Nat → Nat → List S53 → List S53 × Int
  | 0, _, out => (out, 0)
  | d + 1, k, out => if (sideI k 1 0 l).length = (sideI k (-1) 0 l).length then fromR l d (k + 1) (out ++ [⟨sideI k 1 0 l, sideI k (-1) 0 l⟩]) else ([], 5)
def weigh_FromMarks.f (l : List (List Int)) : Option (List S53 × Int) :=
  if (decide (1 ≤ (l.length : Int)) && decide ((l.length : Int) ≤ 13)) = true then (if lenB l = true then some ([], 3) else if l.any (badRow l) = true then some ([], 1) else some (fromR l (l.getD 0 []).length 0 [])) else some ([], 3)
theorem eg104 (args : Array Value) (w : World) : (callFunc 104 args).run Try.prog w = .ok (.enter 104 args) w := enters_of Try.func104 (by kernel_rfl) rfl args w
theorem eg105 (args : Array Value) (w : World) : (callFunc 105 args).run Try.prog w = .ok (.enter 105 args) w := enters_of Try.func105 (by kernel_rfl) rfl args w

set_option maxHeartbeats 8000000 in
set_option maxRecDepth 100000 in
theorem weigh_FromMarks.calls (A0 : Option Addr) (c0 : Nat) (L : List (List Int)) (r1 : List S53) (r2 : Int) (w : World) (hr0 : Kd.C (Kd.slice 3 (Kd.int .i64)) w A0 L.length L) (hc0 : L.length ≤ c0) (h : weigh_FromMarks.f L = some (r1, r2)) :
    Calls Try.prog 67 #[.slice A0 L.length c0] w fun e w' => ∃ v0_ : Value, e = .returned (.tuple #[v0_, .int .i64 r2]) ∧ Kd.N k53 53 w' w.heap.size (fun k_ => w.heap.size ≤ k_) v0_ r1 ∧ Below w.heap.size w w' := by
  unfold weigh_FromMarks.f at h
  have HR := Aside0.mk hr0
  have HFW := Aside0.mk (within_f (L.length : Int) 1 13)
  clear hr0
  cases hw : (decide (1 ≤ (L.length : Int)) && decide ((L.length : Int) ≤ 13)) with
  | false =>
    rw [hw] at h HFW
    rw [if_neg (by simp)] at h
    simp only [Option.some.injEq, Prod.mk.injEq] at h
    obtain ⟨rfl, rfl⟩ := h
    clear hw
    go_enter Try.func67, Try.ntmps67
    go_wp2_with (go_at_call 85; refine (weigh_within.calls (L.length : Int) 1 13 false _ HFW.out).mono ?_; rintro e w' ⟨rfl, ⟨nd, rfl⟩⟩)
    go_ret2
    exact ⟨_, rfl, Kd.N_nil _ _ _ _ _, pw_below_drewN (Below.refl _ _) _⟩
  | true =>
  rw [hw] at h HFW
  rw [if_pos rfl] at h
  have hl13 : 1 ≤ L.length ∧ L.length ≤ 13 := by simp at hw; omega
  clear hw
  go_enter Try.func67, Try.ntmps67
  go_wp2_with (go_at_call 85; refine (weigh_within.calls (L.length : Int) 1 13 true _ HFW.out).mono ?_; rintro e w' ⟨rfl, ⟨nd, rfl⟩⟩)
  refine (containsFunc103 104 #[] eg104 (fun m => decide (3 < (m.length : Int))) A0 c0 L _ ?hr ?hp).mono ?_
  case hr => exact Kd.C_below HR.out (pw_below_drewN (Below.refl _ _) _)
  case hp =>
    intro W x A c _ hCx _ _
    exact lit104 A x.length c W (Kd.C_max hCx)
  rintro e w1 ⟨rfl, hb1⟩
  have HB1 := Aside0.mk ((pw_below_drewN (Below.refl _ w) nd).trans hb1)
  clear hb1
  rw [show (L.any fun m => decide (3 < (m.length : Int))) = lenB L from rfl]
  cases hlb : lenB L with
  | true =>
    rw [hlb, if_pos rfl] at h
    simp only [Option.some.injEq, Prod.mk.injEq] at h
    obtain ⟨rfl, rfl⟩ := h
    go_wp2
    go_ret2
    exact ⟨_, rfl, Kd.N_nil _ _ _ _ _, HB1.out⟩
  | false =>
  rw [hlb, if_neg (by simp)] at h
  have HL3 : Aside0 (∀ m, m ∈ L → m.length ≤ 3) := ⟨fun m hm => by
    unfold lenB at hlb
    have := List.any_eq_false.1 hlb m hm
    simp at this
    omega⟩
  have H0 := Aside0.mk h
  clear hlb h
  have h0l : (0 : Int) < (L.length : Int) := by omega
  have h0c : (0 : Int) ≤ (c0 : Int) := by omega
  obtain ⟨ad0, Am0, cm0, e0, hz0, _, hCz0⟩ := at_L5 HR.out 0 (by omega) (by omega)
  cases e0
  simp only [Int.toNat_zero] at hz0
  rw [show ad0.add 0 = ad0 from by simp [Addr.add]] at hz0
  rw [show rd_L5 L 0 = L.getD 0 [] from rfl] at hz0 hCz0
  obtain ⟨n, hn⟩ : ∃ n, n = (L.getD 0 []).length := ⟨_, rfl⟩
  rw [← hn] at hz0
  have HN0 := Aside0.mk hn
  clear hn
  have hz := hz0
  replace hz := (HB1.out.cell (World.block_lt_of_cell? w _ hz)).trans hz
  go_wp2
  go_loopg [21] L.length (fun gg s wr => ∃ i : Nat, i ≤ L.length ∧ L.length - i ≤ gg ∧ s = .int .i64 i ∧ Aside0 (Below w1.heap.size w1 wr) ∧ Aside0 ((L.drop i).any (badRow L) = L.any (badRow L)))
  case atStart => exact ⟨0, Nat.zero_le _, by omega, rfl, ⟨Below.refl _ _⟩, ⟨by simp⟩⟩
  case round =>
    obtain ⟨i, hi, hg, rfl, BR, AX⟩ := hrel
    have HBr := Aside0.mk (HB1.out.trans (BR.out.mono HB1.out.size))
    replace hz := (HBr.out.cell (World.block_lt_of_cell? w _ hz0)).trans hz0
    by_cases hil : i < L.length
    · have hilz : (i : Int) < (L.length : Int) := by omega
      have hicz : (i : Int) ≤ (c0 : Int) := by omega
      obtain ⟨ad, Am, cm, e1, hx0, hlm, hCm⟩ := at_L5 HR.out i (by omega) hilz
      cases e1
      replace hx0 := (HBr.out.cell (World.block_lt_of_cell? w _ hx0)).trans hx0
      simp only [Int.toNat_natCast] at hx0
      rw [show rd_L5 L (i : Int) = L.getD i [] from rfl] at hx0 hlm hCm
      have Bi : Aside0 ((L.drop i).any (badRow L) = (badRow L (L.getD i []) || (L.drop (i + 1)).any (badRow L))) := ⟨by rw [dropD ([] : List Int) L i hil, List.any_cons]⟩
      generalize L.getD i [] = m at *
      have HCm := Aside0.mk (Kd.C_below hCm HBr.out)
      have HBRow := Aside0.mk (show badRow L m = ((m.length != n) || sideB m) by unfold badRow; rw [HN0.out])
      clear hCm hz0
      by_cases hme : m.length = n
      rotate_left
      · have q1 : ((m.length : Int) != (n : Int)) = true := bne_iff_ne.mpr (by omega)
        have h := H0.out
        have hb : badRow L m = true := by rw [HBRow.out]; simp [hme]
        rw [← AX.out, Bi.out, hb, Bool.true_or, if_pos rfl] at h
        simp only [Option.some.injEq, Prod.mk.injEq] at h
        obtain ⟨rfl, rfl⟩ := h
        clear hme
        go_wp2
        go_ret2
        exact ⟨_, rfl, Kd.N_nil _ _ _ _ _, HBr.out⟩
      have q1 : ((m.length : Int) != (n : Int)) = false := bne_eq_false_iff_eq.mpr (by omega)
      have HME := Aside0.mk hme
      clear hme
      go_wp2_with fail
      refine (containsFunc97 105 #[] eg105 (fun x => !(decide (-1 ≤ x) && decide (x ≤ 1))) Am cm m _ ?hr ?hp).mono ?_
      case hr => exact HCm.out
      case hp =>
        intro W x _ hbW
        exact lit105 x W
      rintro e w2 ⟨rfl, hb2⟩
      have HB2 := Aside0.mk (BR.out.trans (hb2.mono BR.out.size))
      clear hb2
      rw [show (m.any fun x => !(decide (-1 ≤ x) && decide (x ≤ 1))) = sideB m from rfl]
      cases hs : sideB m with
      | true =>
        have h := H0.out
        have hb : badRow L m = true := by rw [HBRow.out, hs]; simp
        rw [← AX.out, Bi.out, hb, Bool.true_or, if_pos rfl] at h
        simp only [Option.some.injEq, Prod.mk.injEq] at h
        obtain ⟨rfl, rfl⟩ := h
        go_wp2
        go_ret2
        exact ⟨_, rfl, Kd.N_nil _ _ _ _ _, HB1.out.trans (HB2.out.mono HB1.out.size)⟩
      | false =>
        have hb : badRow L m = false := by rw [HBRow.out, hs, HME.out]; simp
        go_wp2
        go_roundg (L.length - (i + 1))
        case measure => omega
        case rel => exact ⟨i + 1, by omega, by omega, by go_num, HB2, ⟨by rw [← AX.out, Bi.out, hb, Bool.false_or]⟩⟩
    · have hilz : ¬ (i : Int) < (L.length : Int) := by omega
      have hil' : L.length ≤ i := by omega
      have hno : L.any (badRow L) = false := by rw [← AX.out, List.drop_eq_nil_of_le hil']; rfl
      have h := H0.out
      rw [hno, if_neg (by simp), ← HN0.out] at h
      have H1 := Aside0.mk (Option.some.inj h)
      have HQ : Aside0 (∀ m, m ∈ L → m.length = n) := ⟨fun m hm => by
        have := List.any_eq_false.1 hno m hm
        unfold badRow at this
        rw [← HN0.out] at this
        simp at this
        exact this.1⟩
      have hn3 : n ≤ 3 := by
        rw [HN0.out]
        exact HL3.out _ (mem_getD ([] : List Int) L 0 (by omega))
      have HL := Aside0.mk (Kd.C_below HR.out HBr.out)
      clear h H0 AX hno hCz0
      obtain ⟨w2, rfl⟩ : ∃ q : World, q = wr := ⟨_, rfl⟩
      have HB2 := HBr
      go_wp2
      go_loopg [6, 41] n (fun gg v6 s wr => ∃ (k : Nat) (out : List S53), k ≤ n ∧ out.length ≤ k ∧ n - k ≤ gg ∧ s = .int .i64 k ∧ Aside0 (Below w2.heap.size w2 wr) ∧ Aside0 (Kd.N k53 53 wr w2.heap.size (fun k_ => w2.heap.size ≤ k_) v6 out) ∧ Aside0 (fromR L (n - k) k out = fromR L n 0 []))
      case atStart => exact ⟨0, [], Nat.zero_le _, Nat.le_refl _, by omega, rfl, ⟨Below.refl _ _⟩, ⟨Kd.N_nil _ _ _ _ _⟩, ⟨rfl⟩⟩
      case round =>
        obtain ⟨k, out, hk, hol, hg, rfl, BR, HO, AX⟩ := hrel
        by_cases hkn : k < n
        · have hknz : (k : Int) < (n : Int) := by omega
          have hk3 : k < 3 := by omega
          obtain ⟨wo, rfl⟩ : ∃ q : World, q = wr := ⟨_, rfl⟩
          obtain ⟨go, rfl⟩ : ∃ q : Nat, q = gk := ⟨_, rfl⟩
          go_wp2
          have HMS : Aside0 (MkS wo wo.heap.size (wo.alloc (.cells #[.slice none 0 0, .slice none 0 0] 53)) (.slice none 0 0) (.slice none 0 0) [] []) :=
            ⟨⟨blk_new _ _, Kd.R_nil _ _ _ _ _, Kd.R_nil _ _ _ _ _, (Below.refl _ _).alloc (Nat.le_refl _) _, by simp, Nat.le_refl _⟩⟩
          obtain ⟨g, hg'⟩ : ∃ g, g = wo.heap.size := ⟨_, rfl⟩
          have HGW := Aside0.mk hg'
          rw [← hg'] at HMS ⊢
          clear hg'
          go_loopg [46] L.length (fun gg s wi => ∃ (i : Nat) (vL vR : Value) (xs ys : List Int), i ≤ L.length ∧ L.length - i ≤ gg ∧ s = .int .i64 i ∧ Aside0 (MkS wo g wi vL vR xs ys) ∧ Aside0 (xs ++ sideI k 1 i (L.drop i) = sideI k 1 0 L) ∧ Aside0 (ys ++ sideI k (-1) i (L.drop i) = sideI k (-1) 0 L))
          case atStart => exact ⟨0, _, _, [], [], Nat.zero_le _, by omega, rfl, HMS, ⟨rfl⟩, ⟨rfl⟩⟩
          case round =>
            obtain ⟨i, vL, vR, xs, ys, hi, hgi, rfl, HM, EL, ER⟩ := hrel
            by_cases hil : i < L.length
            · have hilz : (i : Int) < (L.length : Int) := by omega
              obtain ⟨ad, Am, cm, e1, hx0, hlm, hCm⟩ := at_L5 HL.out i (by omega) hilz
              cases e1
              have BI := Aside0.mk (BR.out.trans (HM.out.2.2.2.1.mono BR.out.size))
              replace hx0 := (BI.out.cell (World.block_lt_of_cell? w2 _ hx0)).trans hx0
              simp only [Int.toNat_natCast] at hx0
              rw [show rd_L5 L (i : Int) = L.getD i [] from rfl] at hx0 hlm hCm
              have hml := HQ.out _ (mem_getD ([] : List Int) L i hil)
              have SL : Aside0 (sideI k 1 i (L.drop i) = if (L.getD i []).getD k 0 = 1 then (i : Int) :: sideI k 1 (i + 1) (L.drop (i + 1)) else sideI k 1 (i + 1) (L.drop (i + 1))) := ⟨by rw [dropD ([] : List Int) L i hil]; rfl⟩
              have SR : Aside0 (sideI k (-1) i (L.drop i) = if (L.getD i []).getD k 0 = -1 then (i : Int) :: sideI k (-1) (i + 1) (L.drop (i + 1)) else sideI k (-1) (i + 1) (L.drop (i + 1))) := ⟨by rw [dropD ([] : List Int) L i hil]; rfl⟩
              have HLX : Aside0 (0 = 0 ∧ xs.length ≤ 13 ∧ ys.length ≤ 13) := by
                refine ⟨rfl, ?_, ?_⟩
                · have h := congrArg List.length EL.out
                  rw [List.length_append] at h
                  have := sideI_len k 1 L 0
                  omega
                · have h := congrArg List.length ER.out
                  rw [List.length_append] at h
                  have := sideI_len k (-1) L 0
                  omega
              generalize L.getD i [] = m at *
              obtain ⟨adm, e2, hq⟩ := Kd.at_int hCm (k : Int) (by omega) (by omega)
              cases e2
              replace hq := (BI.out.cell (World.block_lt_of_cell? w2 _ hq)).trans hq
              rw [show rd m (k : Int) = m.getD k 0 from rfl] at hq
              simp only [Int.toNat_natCast] at hq
              have hkm : (k : Int) < (m.length : Int) := by omega
              have hkc : (k : Int) ≤ (cm : Int) := by omega
              have HM1 := HM
              obtain ⟨W1, rfl⟩ : ∃ q : World, q = wr := ⟨_, rfl⟩
              clear HM
              obtain ⟨x, hx⟩ : ∃ x, x = m.getD k 0 := ⟨_, rfl⟩
              rw [← hx] at hq SL SR
              clear hx hCm BI
              by_cases hx : x = 1
              · skip
                have EL2 : Aside0 ((xs ++ [(i : Int)]) ++ sideI k 1 (i + 1) (L.drop (i + 1)) = sideI k 1 0 L) := ⟨by rw [← EL.out, SL.out, if_pos hx]; simp⟩
                have ER2 : Aside0 (ys ++ sideI k (-1) (i + 1) (L.drop (i + 1)) = sideI k (-1) 0 L) := ⟨by rw [← ER.out, SR.out, if_neg (by rw [hx]; decide)]⟩
                clear EL ER SL SR
                have q0 : W1.cell? ⟨g, 0, none⟩ = some vL := (blk_cell HM1.out.1 0)
                have hlx := HLX.out.2.1
                subst hx
                go_wp2_with (first | (at_builtin; refine Kd.R_append (Kd.int .i64) (w0 := wo) wo.heap.size rfl (.tmp 58) (.tmp 60) 43 3 (.int .i64 0) 8 rfl Try.underlying43 info3 rfl (by decide) (by omega) vL xs (i : Int) [.int .i64 (i : Int)] (fun q => q ≠ g ∧ some q ≠ vR.ownBlock) (fun _ => False) rfl rfl ?aP (fun _ h => h.elim) ?aF HM1.out.2.1 HM1.out.2.2.2.1 HM1.out.2.2.2.1.size ?aL ?_))
                case aP => exact rfl
                case aF =>
                  intro q hq
                  have h5 := HM1.out.2.2.2.2.1
                  refine ⟨by omega, fun he => ?_⟩
                  have := (Kd.R_bound HM1.out.2.2.1).1 q he.symm
                  omega
                case aL => omega
                intro v1 w3 hR3 hB3 hG3 hat3
                obtain ⟨zs, hzs⟩ : ∃ z, z = xs ++ [(i : Int)] := ⟨_, rfl⟩
                rw [← hzs] at hR3 EL2
                clear hzs
                obtain ⟨A1, c1, rfl⟩ := Kd.R_slice hR3
                have hX3 := blk_grown HM1.out.1 hG3 (Kd.R_away HM1.out.2.1 (fun q hq => hq.1))
                have HN := Aside0.mk (MkS.left HM1.out hR3 hB3 hG3 hat3)
                have c3 : w3.cell? ⟨g, 0, none⟩ = some vL := blk_cell hX3 0
                have f3 : w3.frozen? ⟨g, 0, none⟩ = false := blk_frozen hX3 0
                clear hX3 hR3 hB3 hG3 hat3 HM1 q0
                go_wp2
                go_roundg (L.length - (i + 1))
                case measure => omega
                case rel => exact ⟨i + 1, _, vR, _, ys, by omega, by omega, by go_num, HN, EL2, ER2⟩
              by_cases hx : x = -1
              · skip
                have EL2 : Aside0 (xs ++ sideI k 1 (i + 1) (L.drop (i + 1)) = sideI k 1 0 L) := ⟨by rw [← EL.out, SL.out, if_neg (by rw [hx]; decide)]⟩
                have ER2 : Aside0 ((ys ++ [(i : Int)]) ++ sideI k (-1) (i + 1) (L.drop (i + 1)) = sideI k (-1) 0 L) := ⟨by rw [← ER.out, SR.out, if_pos hx]; simp⟩
                clear EL ER SL SR
                have q0 : W1.cell? ⟨g, 1, none⟩ = some vR := (blk_cell HM1.out.1 1)
                have hlx := HLX.out.2.2
                subst hx
                go_wp2_with (first | (at_builtin; refine Kd.R_append (Kd.int .i64) (w0 := wo) wo.heap.size rfl (.tmp 66) (.tmp 68) 43 3 (.int .i64 0) 8 rfl Try.underlying43 info3 rfl (by decide) (by omega) vR ys (i : Int) [.int .i64 (i : Int)] (fun q => q ≠ g ∧ some q ≠ vL.ownBlock) (fun _ => False) rfl rfl ?aP (fun _ h => h.elim) ?aF HM1.out.2.2.1 HM1.out.2.2.2.1 HM1.out.2.2.2.1.size ?aL ?_))
                case aP => exact rfl
                case aF =>
                  intro q hq
                  have h5 := HM1.out.2.2.2.2.1
                  refine ⟨by omega, fun he => ?_⟩
                  have := (Kd.R_bound HM1.out.2.1).1 q he.symm
                  omega
                case aL => omega
                intro v1 w3 hR3 hB3 hG3 hat3
                obtain ⟨zs, hzs⟩ : ∃ z, z = ys ++ [(i : Int)] := ⟨_, rfl⟩
                rw [← hzs] at hR3 ER2
                clear hzs
                obtain ⟨A1, c1, rfl⟩ := Kd.R_slice hR3
                have hX3 := blk_grown HM1.out.1 hG3 (Kd.R_away HM1.out.2.2.1 (fun q hq => hq.1))
                have HN := Aside0.mk (MkS.right HM1.out hR3 hB3 hG3 hat3)
                have c3 : w3.cell? ⟨g, 1, none⟩ = some vR := blk_cell hX3 1
                have f3 : w3.frozen? ⟨g, 1, none⟩ = false := blk_frozen hX3 1
                clear hX3 hR3 hB3 hG3 hat3 HM1 q0
                go_wp2
                go_roundg (L.length - (i + 1))
                case measure => omega
                case rel => exact ⟨i + 1, vL, _, xs, _, by omega, by omega, by go_num, HN, EL2, ER2⟩
              have EL2 : Aside0 (xs ++ sideI k 1 (i + 1) (L.drop (i + 1)) = sideI k 1 0 L) := ⟨by rw [← EL.out, SL.out, if_neg (by assumption)]⟩
              have ER2 : Aside0 (ys ++ sideI k (-1) (i + 1) (L.drop (i + 1)) = sideI k (-1) 0 L) := ⟨by rw [← ER.out, SR.out, if_neg hx]⟩
              clear EL ER SL SR
              go_wp2
              go_roundg (L.length - (i + 1))
              case measure => omega
              case rel => exact ⟨i + 1, vL, vR, xs, ys, by omega, by omega, by go_num, HM1, EL2, ER2⟩
            · have hilz : ¬ (i : Int) < (L.length : Int) := by omega
              obtain rfl : i = L.length := by omega
              obtain ⟨AL, cL, rfl⟩ := Kd.R_slice HM.out.2.1
              obtain ⟨AR, cR, rfl⟩ := Kd.R_slice HM.out.2.2.1
              obtain ⟨Av, cv, rfl⟩ := Kd.N_slice HO.out
              have c0 : wr.cell? ⟨g, 0, none⟩ = some (.slice AL xs.length cL) := blk_cell HM.out.1 0
              have c1 : wr.cell? ⟨g, 1, none⟩ = some (.slice AR ys.length cR) := blk_cell HM.out.1 1
              have hxe := Aside0.mk (show xs = sideI k 1 0 L by rw [← EL.out, List.drop_length]; simp [sideI])
              have hye := Aside0.mk (show ys = sideI k (-1) 0 L by rw [← ER.out, List.drop_length]; simp [sideI])
              have HXY := Aside0.mk (show fromR L (n - k) k out = if xs.length = ys.length then fromR L (n - (k + 1)) (k + 1) (out ++ [⟨xs, ys⟩]) else ([], 5) by
                rw [show n - k = (n - (k + 1)) + 1 by omega, fromR, ← hxe.out, ← hye.out])
              by_cases hxy : xs.length = ys.length
              rotate_left
              · have q1 : ((xs.length : Int) != (ys.length : Int)) = true := bne_iff_ne.mpr (by omega)
                have h := AX.out
                rw [HXY.out, if_neg hxy, H1.out] at h
                simp only [Prod.mk.injEq] at h
                obtain ⟨rfl, rfl⟩ := h
                clear hxy
                go_wp2
                go_ret2
                exact ⟨_, rfl, Kd.N_nil _ _ _ _ _, HB2.out.trans ((BR.out.trans (HM.out.2.2.2.1.mono BR.out.size)).mono HB2.out.size)⟩
              have q1 : ((xs.length : Int) != (ys.length : Int)) = false := bne_eq_false_iff_eq.mpr (by omega)
              have AX2 := Aside0.mk (show fromR L (n - (k + 1)) (k + 1) (out ++ [⟨xs, ys⟩]) = fromR L n 0 [] by rw [← AX.out, HXY.out, if_pos hxy])
              clear hxy
              go_wp2_with (first | (at_builtin; refine Kd.N_append k53 (w0 := w2) w2.heap.size rfl (.tmp 79) (.tmp 81) 22 53 (.agg #[(.slice none 0 0), (.slice none 0 0)]) 48 rfl Try.underlying22 info53 rfl (by decide) (by omega) (.slice Av out.length cv) out (⟨xs, ys⟩ : S53) [.slice AL xs.length cL, .slice AR ys.length cR] (fun k_ => w2.heap.size ≤ k_) (fun k_ => some k_ = (.slice AL xs.length cL : Value).ownBlock ∨ some k_ = (.slice AR ys.length cR : Value).ownBlock) rfl rfl ?aP ?aK ?aF ?aO ?aB ?aS ?aL ?_))
              case aP => exact Kd.FK_of_M (k53_mkM _ wo.heap.size _ (⟨xs, ys⟩ : S53) (Kd.R_mono (Kd.R_tight rfl HM.out.2.1) (fun _ h => Or.inl h)) (Kd.R_mono (Kd.R_tight rfl HM.out.2.2.1) (fun _ h => Or.inr h)))
              case aK =>
                intro q hq
                have h1 : wo.heap.size ≤ q := by
                  rcases hq with h | h
                  · exact Kd.R_base HM.out.2.1 q h.symm
                  · exact Kd.R_base HM.out.2.2.1 q h.symm
                refine ⟨by have := BR.out.size; omega, fun he => ?_⟩
                have h2 := Kd.N_lt HO.out q he.symm
                omega
              case aF => intro q hq; have h1 := BR.out.size; have h2 := HM.out.2.2.2.1.size; omega
              case aO => exact Kd.N_below HO.out HM.out.2.2.2.1
              case aB => exact BR.out.trans (HM.out.2.2.2.1.mono BR.out.size)
              case aS => have h1 := BR.out.size; have h2 := HM.out.2.2.2.1.size; omega
              case aL => omega
              intro v1 w3 hN hB3 _ _
              have HN := Aside0.mk hN
              have HB3 := Aside0.mk hB3
              clear hN hB3
              go_wp2
              go_roundg (n - (k + 1))
              case measure => omega
              case rel =>
                exact ⟨k + 1, _, by omega, by simp; omega, by omega, by go_num, HB3, HN, AX2⟩
        · have hknz : ¬ (k : Int) < (n : Int) := by omega
          obtain rfl : k = n := by omega
          go_wp2
          go_ret2
          have e := AX.out
          rw [Nat.sub_self, fromR, H1.out] at e
          simp only [Prod.mk.injEq] at e
          obtain ⟨rfl, rfl⟩ := e
          refine ⟨_, rfl, ?_, HB2.out.trans (BR.out.mono HB2.out.size)⟩
          exact Kd.N_mono (ok' := fun k_ => w.heap.size ≤ k_) (Kd.N_lower HO.out HB2.out.size) (fun k hk => Nat.le_trans HB2.out.size hk)
end Go.Proofs.Ytdbeochifofdoaa.X
end

section
-- Written by a program of this session (wip/hook.py, which runs the kit's print.py with contracts proved by hand). Not trusted: Lean checks it.
namespace Go.Proofs.Ytdbeochifofdoaa.X
open Go.RowKit Go.Proofs.YtdbeochifofdoaaW.PrintWords Go.Proofs.YtdbeochifofdoaaW.PrintLast Go.Proofs.YtdbeochifofdoaaW.PrintMore
attribute [local go_sem] max2_int min2_int max_two min_two max_three min_three max_four min_four   -- for this text's walks alone
set_option linter.unusedVariables false
set_option linter.unusedSimpArgs false

/-! ### verditerlaw06_weighFromMarks: function 38 -/
mutual
def verditerlaw06_weighFromMarks.l0 : Nat → List (List Int) → Int → Option (Bool)
  | 0, _, _ => none
  | k + 1, x0, x3 => if x3 < (x0.length : Int) then (if 0 ≤ x3 then (if ((rd_L5 x0 x3).length : Int) > 50 then ((verditerlaw06_known.f k).bind fun t557 => (some t557)) else (verditerlaw06_weighFromMarks.l0 k x0 (wrap64 (x3 + 1)))) else (none)) else ((verditerref06_FromMarks.f k x0).bind fun bt558 => ((weigh_FromMarks.f x0).bind fun bt562 => (if bt562.2 = bt558.2 then ((verditerref06_Same.f k bt562.1 bt558.1).bind fun t566 => (verditerlaw06_weighFromMarks.j1 k x0 bt562.1 bt562.2 (!t566))) else (verditerlaw06_weighFromMarks.j1 k x0 bt562.1 bt562.2 true))))
def verditerlaw06_weighFromMarks.j1 : Nat → List (List Int) → List (S53) → Int → Bool → Option (Bool)
  | 0, _, _, _, _ => none
  | k + 1, x0, x6, x7, x45 => if x45 = true then (some false) else (if x7 = 0 then ((weigh_Marks.f (x0.length : Int) x6).bind fun bt567 => (if bt567.2 = 0 then ((verditerref06_SameLists.f k bt567.1 x0).bind fun t571 => (if t571 = true then ((verditerlaw06_known.f k).bind fun t572 => (some t572)) else (some false))) else (some false))) else ((verditerlaw06_known.f k).bind fun t573 => (some t573)))
end
def verditerlaw06_weighFromMarks.f (k : Nat) (l0 : List (List Int)) : Option (Bool) := if (l0.length : Int) > 50 then ((verditerlaw06_known.f k).bind fun t555 => (some t555)) else (verditerlaw06_weighFromMarks.l0 k l0 0)
theorem verditerlaw06_weighFromMarks.mono_l : ∀ k, (∀ y0 y1, LeO (verditerlaw06_weighFromMarks.l0 k y0 y1) (verditerlaw06_weighFromMarks.l0 (k + 1) y0 y1)) ∧ (∀ y0 y1 y2 y3, LeO (verditerlaw06_weighFromMarks.j1 k y0 y1 y2 y3) (verditerlaw06_weighFromMarks.j1 (k + 1) y0 y1 y2 y3))
  | 0 => ⟨fun _ _ r h => by simp [verditerlaw06_weighFromMarks.l0] at h, fun _ _ _ _ r h => by simp [verditerlaw06_weighFromMarks.j1] at h⟩
  | k + 1 => by
    obtain ⟨ih0, ih1⟩ := verditerlaw06_weighFromMarks.mono_l k
    refine ⟨?_, ?_⟩
    · intro y0 y1
      unfold verditerlaw06_weighFromMarks.l0
      repeat' first
      | (with_reducible exact ih0 _ _)
      | (with_reducible exact ih1 _ _ _ _)
      | (with_reducible exact verditerlaw06_known.mono _)
      | (with_reducible exact verditerref06_FromMarks.mono _ _)
      | (with_reducible exact verditerref06_Same.mono _ _ _)
      | (with_reducible exact verditerref06_SameLists.mono _ _ _)
      | (with_reducible exact LeO.refl _)
      | (with_reducible exact LeO.none _)
      | (with_reducible refine LeO.ite ?_ ?_)
      | (with_reducible refine LeO.bind ?_ (fun _ => ?_))
      | exact ih0 _ _
      | exact ih1 _ _ _ _
      | exact verditerlaw06_known.mono _
      | exact verditerref06_FromMarks.mono _ _
      | exact verditerref06_Same.mono _ _ _
      | exact verditerref06_SameLists.mono _ _ _
      | exact LeO.none _
      | refine LeO.ite ?_ ?_
      | refine LeO.bind ?_ (fun _ => ?_)
    · intro y0 y1 y2 y3
      unfold verditerlaw06_weighFromMarks.j1
      repeat' first
      | (with_reducible exact ih0 _ _)
      | (with_reducible exact ih1 _ _ _ _)
      | (with_reducible exact verditerlaw06_known.mono _)
      | (with_reducible exact verditerref06_FromMarks.mono _ _)
      | (with_reducible exact verditerref06_Same.mono _ _ _)
      | (with_reducible exact verditerref06_SameLists.mono _ _ _)
      | (with_reducible exact LeO.refl _)
      | (with_reducible exact LeO.none _)
      | (with_reducible refine LeO.ite ?_ ?_)
      | (with_reducible refine LeO.bind ?_ (fun _ => ?_))
      | exact ih0 _ _
      | exact ih1 _ _ _ _
      | exact verditerlaw06_known.mono _
      | exact verditerref06_FromMarks.mono _ _
      | exact verditerref06_Same.mono _ _ _
      | exact verditerref06_SameLists.mono _ _ _
      | exact LeO.none _
      | refine LeO.ite ?_ ?_
      | refine LeO.bind ?_ (fun _ => ?_)
theorem verditerlaw06_weighFromMarks.mono : ∀ a0 k, LeO (verditerlaw06_weighFromMarks.f k a0) (verditerlaw06_weighFromMarks.f (k + 1) a0) := by
  intro a0 k
  obtain ⟨ih0, ih1⟩ := verditerlaw06_weighFromMarks.mono_l k
  unfold verditerlaw06_weighFromMarks.f
  repeat' first
      | (with_reducible exact ih0 _ _)
      | (with_reducible exact ih1 _ _ _ _)
      | (with_reducible exact verditerlaw06_known.mono _)
      | (with_reducible exact verditerref06_FromMarks.mono _ _)
      | (with_reducible exact verditerref06_Same.mono _ _ _)
      | (with_reducible exact verditerref06_SameLists.mono _ _ _)
      | (with_reducible exact LeO.refl _)
      | (with_reducible exact LeO.none _)
      | (with_reducible refine LeO.ite ?_ ?_)
      | (with_reducible refine LeO.bind ?_ (fun _ => ?_))
      | exact ih0 _ _
      | exact ih1 _ _ _ _
      | exact verditerlaw06_known.mono _
      | exact verditerref06_FromMarks.mono _ _
      | exact verditerref06_Same.mono _ _ _
      | exact verditerref06_SameLists.mono _ _ _
      | exact LeO.none _
      | refine LeO.ite ?_ ?_
      | refine LeO.bind ?_ (fun _ => ?_)
set_option maxHeartbeats 8000000 in
set_option maxRecDepth 100000 in
theorem verditerlaw06_weighFromMarks.calls (k : Nat) (A0 : Option Addr) (c0 : Nat) (l0 : List (List Int)) (r : Bool) (w : World) (hr0 : Kd.C (Kd.slice 3 (Kd.int .i64)) w A0 l0.length l0) (hc0 : l0.length ≤ c0) (h : verditerlaw06_weighFromMarks.f k l0 = some r) :
    Calls Try.prog 38 #[.slice A0 l0.length c0] w fun e w' => e = .returned (.bool r) ∧ Below w.heap.size w w' := by
  have HR0 := Aside0.mk hr0
  have HC0 := Aside0.mk hc0
  clear hr0 hc0
  have HB := Aside0.mk (Below.refl w.heap.size w)
  have H : (if (l0.length : Int) > 50 then ((verditerlaw06_known.f k).bind fun t555 => (some t555)) else (verditerlaw06_weighFromMarks.l0 k l0 0)) = some r := h
  clear h
  by_cases c2 : (l0.length : Int) > 50
  · rw [if_pos c2] at H
    have c2b0 : decide (50 < (l0.length : Int)) = true := decide_eq_true c2
    have c2b1 : decide (50 < l0.length) = true := decide_eq_true (by omega)
    clear c2
    replace H := Option.bind_eq_some_iff.mp H
    obtain ⟨t555, A30, H⟩ := H
    replace H : (some t555) = some r := H
    have A3 := Aside0.mk A30
    clear A30
    obtain rfl := Option.some.inj H
    go_enter Try.func38, Try.ntmps38
    go_wp2_with (first | ((with_reducible refine gate_callee (f := 25) rfl ?_); refine goesL_ (some 13) rfl rfl Try.func25 (by kernel_rfl) rfl #[] rfl (by (try simp only [List.map_toArray, List.map_cons, List.map_nil]); first | done | rfl | (simp only [List.length_drop, List.length_take]; rfl)) ?_; (with_reducible refine (verditerlaw06_known.calls k  t555 _ A3.out).mono ?_); rintro e w4 ⟨rfl, hb⟩; refine ⟨_, rfl, ?_⟩; have n0_ := Aside0.mk (below_step (by repeat (first | (with_reducible first | exact HB.out | apply below_alloc | apply pw_below_drewN | apply below_drew1) | exact HB.out)) hb); clear HB; have HB := n0_; clear n0_; (try clear hb); (try clear hb2); (try clear hk); (try clear hi)))
    go_ret
    exact ⟨by first | rfl | (simp [errW_none, errW_some] <;> rfl) | (simp [*, errW_none, errW_some] <;> rfl), by repeat (first | (with_reducible first | exact HB.out | apply below_alloc | apply pw_below_drewN | apply below_drew1) | exact HB.out)⟩
  · rw [if_neg c2] at H
    have c2b0 : decide (50 < (l0.length : Int)) = false := decide_eq_false c2
    have c2b1 : decide (50 < l0.length) = false := decide_eq_false (by omega)
    clear c2
    have H' := Aside0.mk H
    clear H
    go_enter Try.func38, Try.ntmps38
    go_wp2
    go_loopg [3] k (fun kq v3 w' => ∃ (x3_1 : Int), v3 = .int .i64 x3_1 ∧ Aside0 (verditerlaw06_weighFromMarks.l0 kq l0 x3_1 = some r) ∧ Aside0 (kq ≤ k) ∧ Aside0 (Below w.heap.size w w'))
    case atStart => exact ⟨(0), (by first | rfl | (simp; done) | (simp [*]; done)), H', ⟨Nat.le_refl _⟩, ⟨by repeat (first | (with_reducible first | exact HB.out | apply below_alloc | apply pw_below_drewN | apply below_drew1) | exact HB.out)⟩⟩
    case round =>
      clear H'
      try clear c2
      try clear c2b0
      try clear c2b1
      try clear p2
      try clear c3
      obtain ⟨x3_1, rfl, HA, HK1, HB⟩ := hrel
      cases gk with
      | zero => exact absurd HA.out (by simp [verditerlaw06_weighFromMarks.l0])
      | succ k1 =>
        have H := HA.out
        clear HA
        simp only [verditerlaw06_weighFromMarks.l0] at H
        by_cases c5 : x3_1 < (l0.length : Int)
        · rw [if_pos c5] at H
          have c5b0 : decide (x3_1 < (l0.length : Int)) = true := decide_eq_true c5
          clear c5
          by_cases c6 : 0 ≤ x3_1
          · rw [if_pos c6] at H
            have c6b0 : decide (0 ≤ x3_1) = true := decide_eq_true c6
            clear c6
            by_cases c7 : ((rd_L5 l0 x3_1).length : Int) > 50
            · rw [if_pos c7] at H
              have c7b0 : decide (50 < ((rd_L5 l0 x3_1).length : Int)) = true := decide_eq_true c7
              have c7b1 : decide (50 < (rd_L5 l0 x3_1).length) = true := decide_eq_true (by omega)
              clear c7
              replace H := Option.bind_eq_some_iff.mp H
              obtain ⟨t557, A80, H⟩ := H
              replace H : (some t557) = some r := H
              have A8 := Aside0.mk A80
              clear A80
              obtain rfl := Option.some.inj H
              have p556 : 0 ≤ (x3_1 : Int) := of_decide_eq_true (by first | (with_reducible assumption) | assumption)
              have q556 : x3_1 < (l0.length : Int) := of_decide_eq_true (by first | (with_reducible assumption) | assumption)
              obtain ⟨ad556, A556_0, c556_0, e556, hx556_0, hl556_0, hi556_0⟩ := at_L5 HR0.out x3_1 p556 q556
              cases e556
              replace hx556_0 := (HB.out.cell (World.block_lt_of_cell? w _ hx556_0)).trans hx556_0
              have HR556_0 := Aside0.mk hi556_0
              have HC556_0 := Aside0.mk hl556_0
              clear hi556_0 hl556_0
              replace p556 := eq_true p556
              replace q556 := eq_true q556
              go_wp2_with (first | ((with_reducible refine gate_callee (f := 25) rfl ?_); refine goesL_ (some 26) rfl rfl Try.func25 (by kernel_rfl) rfl #[] rfl (by (try simp only [List.map_toArray, List.map_cons, List.map_nil]); first | done | rfl | (simp only [List.length_drop, List.length_take]; rfl)) ?_; (with_reducible refine (verditerlaw06_known.calls k1  t557 _ A8.out).mono ?_); rintro e w9 ⟨rfl, hb⟩; refine ⟨_, rfl, ?_⟩; have n0_ := Aside0.mk (below_step (by repeat (first | (with_reducible first | exact HB.out | apply below_alloc | apply pw_below_drewN | apply below_drew1) | exact HB.out)) hb); clear HB; have HB := n0_; clear n0_; (try clear hb); (try clear hb2); (try clear hk); (try clear hi)))
              go_ret
              exact ⟨by first | rfl | (simp [errW_none, errW_some] <;> rfl) | (simp [*, errW_none, errW_some] <;> rfl), by repeat (first | (with_reducible first | exact HB.out | apply below_alloc | apply pw_below_drewN | apply below_drew1) | exact HB.out)⟩
            · rw [if_neg c7] at H
              have c7b0 : decide (50 < ((rd_L5 l0 x3_1).length : Int)) = false := decide_eq_false c7
              have c7b1 : decide (50 < (rd_L5 l0 x3_1).length) = false := decide_eq_false (by omega)
              clear c7
              have H' := Aside0.mk H
              clear H
              have p556 : 0 ≤ (x3_1 : Int) := of_decide_eq_true (by first | (with_reducible assumption) | assumption)
              have q556 : x3_1 < (l0.length : Int) := of_decide_eq_true (by first | (with_reducible assumption) | assumption)
              obtain ⟨ad556, A556_0, c556_0, e556, hx556_0, hl556_0, hi556_0⟩ := at_L5 HR0.out x3_1 p556 q556
              cases e556
              replace hx556_0 := (HB.out.cell (World.block_lt_of_cell? w _ hx556_0)).trans hx556_0
              have HR556_0 := Aside0.mk hi556_0
              have HC556_0 := Aside0.mk hl556_0
              clear hi556_0 hl556_0
              replace p556 := eq_true p556
              replace q556 := eq_true q556
              go_wp2
              go_roundg k1
              case measure => have := HK1.out; omega
              case rel => exact ⟨(wrap64 (x3_1 + 1)), (by first | rfl | (simp; done) | (simp [*]; done)), H', ⟨by have := HK1.out; omega⟩, ⟨by repeat (first | (with_reducible first | exact HB.out | apply below_alloc | apply pw_below_drewN | apply below_drew1) | exact HB.out)⟩⟩
          · rw [if_neg c6] at H
            exact absurd H (by simp)
        · rw [if_neg c5] at H
          have c5b0 : decide (x3_1 < (l0.length : Int)) = false := decide_eq_false c5
          clear c5
          replace H := Option.bind_eq_some_iff.mp H
          obtain ⟨⟨t558, t559⟩, A100, H⟩ := H
          replace H : ((weigh_FromMarks.f l0).bind fun bt562 => (if bt562.2 = t559 then ((verditerref06_Same.f k1 bt562.1 t558).bind fun t566 => (verditerlaw06_weighFromMarks.j1 k1 l0 bt562.1 bt562.2 (!t566))) else (verditerlaw06_weighFromMarks.j1 k1 l0 bt562.1 bt562.2 true))) = some r := H
          have A10 := Aside0.mk A100
          clear A100
          replace H := Option.bind_eq_some_iff.mp H
          obtain ⟨⟨t562, t565⟩, A110, H⟩ := H
          replace H : (if t565 = t559 then ((verditerref06_Same.f k1 t562 t558).bind fun t566 => (verditerlaw06_weighFromMarks.j1 k1 l0 t562 t565 (!t566))) else (verditerlaw06_weighFromMarks.j1 k1 l0 t562 t565 true)) = some r := H
          have A11 := Aside0.mk A110
          clear A110
          have HC12 := Aside0.mk H
          clear H
          go_upto_region 10 with (first | ((with_reducible refine gate_callee (f := 69) rfl ?_); refine goesL_ (some 29) rfl rfl Try.func69 (by kernel_rfl) rfl #[.slice A0 l0.length c0] rfl (by (try simp only [List.map_toArray, List.map_cons, List.map_nil]); first | done | rfl | (simp only [List.length_drop, List.length_take]; rfl)) ?_; (with_reducible refine (verditerref06_FromMarks.calls k1 _ _ l0 t558 t559 _ ?side1 ?side2 A10.out).mono ?_); (case side1 => repeat (first | exact (Kd.C_below HR0.out HB.out) | (with_reducible refine Kd.C_alloc ?_ _) | (with_reducible refine Kd.C_drewN ?_ _) | (with_reducible refine Kd.C_drew ?_))); (case side2 => exact HC0.out); rintro e w13 ⟨v560, rfl, ho0, hb⟩; refine ⟨_, rfl, ?_⟩; have n0_ := Aside0.mk (Kd.N_lower (Kd.N_mono (ok' := fun k_ => True) (Kd.S_N (Kd.S_bound ho0)) (fun k_ hk_ => trivial)) (below_size (by repeat (first | (with_reducible first | exact HB.out | apply below_alloc | apply pw_below_drewN | apply below_drew1) | exact HB.out)))); have n1_ := Aside0.mk (below_step (by repeat (first | (with_reducible first | exact HB.out | apply below_alloc | apply pw_below_drewN | apply below_drew1) | exact HB.out)) hb); clear HB; have HO561 := n0_; have HB := n1_; clear n0_ n1_; (try clear hb); (try clear hb2); (try clear hk); (try clear hi); (try clear ho0)) | ((with_reducible refine gate_callee (f := 67) rfl ?_); refine goesL_ (some 34) rfl rfl Try.func67 (by kernel_rfl) rfl #[.slice A0 l0.length c0] rfl (by (try simp only [List.map_toArray, List.map_cons, List.map_nil]); first | done | rfl | (simp only [List.length_drop, List.length_take]; rfl)) ?_; (with_reducible refine (weigh_FromMarks.calls _ _ l0 t562 t565 _ ?side1 ?side2 A11.out).mono ?_); (case side1 => repeat (first | exact (Kd.C_below HR0.out HB.out) | (with_reducible refine Kd.C_alloc ?_ _) | (with_reducible refine Kd.C_drewN ?_ _) | (with_reducible refine Kd.C_drew ?_))); (case side2 => exact HC0.out); rintro e w14 ⟨v563, rfl, ho0, hb⟩; refine ⟨_, rfl, ?_⟩; have n0_ := Aside0.mk (Kd.N_elder' (by (with_reducible repeat (first | apply Kd.N_alloc | apply Kd.N_drewN | apply Kd.N_drew)); exact HO561.out) (Kd.N_base ho0) hb); have n1_ := Aside0.mk (Kd.N_lower (Kd.N_mono (ok' := fun k_ => some k_ ≠ (v560 : Value).ownBlock) ho0 (fun k_ hk_ => (Kd.fresh' (Kd.N_lt (by (with_reducible repeat (first | apply Kd.N_alloc | apply Kd.N_drewN | apply Kd.N_drew)); exact HO561.out)) k_ hk_))) (below_size (by repeat (first | (with_reducible first | exact HB.out | apply below_alloc | apply pw_below_drewN | apply below_drew1) | exact HB.out)))); have n2_ := Aside0.mk (below_step (by repeat (first | (with_reducible first | exact HB.out | apply below_alloc | apply pw_below_drewN | apply below_drew1) | exact HB.out)) hb); clear HO561; clear HB; have HO561 := n0_; have HO564 := n1_; have HB := n2_; clear n0_ n1_ n2_; (try clear hb); (try clear hb2); (try clear hk); (try clear hi); (try clear ho0)))
          (try simp only [Act.put, List.setIfInBounds_toArray, List.set_cons_zero, List.set_cons_succ])
          go_cut [45] (fun v45 wc => ∃ (kq : Nat) (x45_11 : Bool), v45 = .bool x45_11 ∧ Aside0 (verditerlaw06_weighFromMarks.j1 kq l0 t562 t565 x45_11 = some r) ∧ Aside0 (kq ≤ k1) ∧ Aside0 (Kd.N k53 53 wc w.heap.size (fun _ => True) v563 t562) ∧ Aside0 (Below w.heap.size w wc))
          case first =>
            have H := HC12.out
            clear HC12
            by_cases c15 : t565 = t559
            · rw [if_pos c15] at H
              have c15b0 : (t565 == t559) = true := beq_iff_eq.mpr c15
              have c15b1 : (t565 != t559) = false := bne_eq_false_iff_eq.mpr c15
              clear c15
              (first | rw [c15b0] | (simp only [i64_w, i32_w]; rw [c15b0]) | skip)
              replace H := Option.bind_eq_some_iff.mp H
              obtain ⟨t566, A160, H⟩ := H
              replace H : (verditerlaw06_weighFromMarks.j1 k1 l0 t562 t565 (!t566)) = some r := H
              have A16 := Aside0.mk A160
              clear A160
              have H' := Aside0.mk H
              clear H
              obtain ⟨Ao17, co17, eo17⟩ := Kd.N_slice HO564.out
              subst eo17
              obtain ⟨Ao18, co18, eo18⟩ := Kd.N_slice HO561.out
              subst eo18
              go_wp2_with (first | (go_at_call 68; (with_reducible refine (verditerref06_Same.calls k1 _ _ t562 _ _ t558 t566 _ ?side1 ?side2 ?side3 ?side4 A16.out).mono ?_); (case side1 => repeat (first | exact (Kd.N_reads' HO564.out).2.2 | (with_reducible refine Kd.C_alloc ?_ _) | (with_reducible refine Kd.C_drewN ?_ _) | (with_reducible refine Kd.C_drew ?_))); (case side2 => exact (Kd.N_reads' HO564.out).2.1); (case side3 => repeat (first | exact (Kd.N_reads' HO561.out).2.2 | (with_reducible refine Kd.C_alloc ?_ _) | (with_reducible refine Kd.C_drewN ?_ _) | (with_reducible refine Kd.C_drew ?_))); (case side4 => exact (Kd.N_reads' HO561.out).2.1); rintro e w' ⟨rfl, ⟨nd, rfl⟩⟩))
              go_meet
              case rel => exact ⟨_, (!t566), (by first | rfl | (simp; done) | (simp [*]; done)), H', ⟨by have := HK1.out; first | omega | exact Nat.le_refl _⟩, ⟨by (with_reducible repeat (first | apply Kd.N_alloc | apply Kd.N_drewN | apply Kd.N_drew)); exact Kd.N_mono HO564.out (fun _ hk => trivial)⟩, ⟨by repeat (first | (with_reducible first | exact HB.out | apply below_alloc | apply pw_below_drewN | apply below_drew1) | exact HB.out)⟩⟩
            · rw [if_neg c15] at H
              have c15b0 : (t565 == t559) = false := beq_eq_false_iff_ne.mpr c15
              have c15b1 : (t565 != t559) = true := bne_iff_ne.mpr c15
              (first | rw [c15b0] | (simp only [i64_w, i32_w]; rw [c15b0]) | skip)
              have H' := Aside0.mk H
              clear H
              go_wp2
              go_meet
              case rel => exact ⟨_, (true), (by first | rfl | (simp; done) | (simp [*]; done)), H', ⟨by have := HK1.out; first | omega | exact Nat.le_refl _⟩, ⟨by (with_reducible repeat (first | apply Kd.N_alloc | apply Kd.N_drewN | apply Kd.N_drew)); exact Kd.N_mono HO564.out (fun _ hk => trivial)⟩, ⟨by repeat (first | (with_reducible first | exact HB.out | apply below_alloc | apply pw_below_drewN | apply below_drew1) | exact HB.out)⟩⟩
          case rest =>
            clear HC12
            try clear c1
            try clear c2
            try clear c2b0
            try clear c2b1
            try clear p2
            try clear c3
            try clear c5
            try clear c5b0
            try clear p5
            try clear q5
            try clear hx5
            try clear c6
            try clear c6b0
            try clear p6
            try clear c7
            try clear c7b0
            try clear c7b1
            try clear c15
            try clear c15b0
            try clear c15b1
            try clear hx556_0
            try clear p2
            try clear p556
            try clear q556
            obtain ⟨kq, x45_11, rfl, HA, HJ11, HO_6, HB⟩ := hcut
            cases kq with
            | zero => exact absurd HA.out (by simp [verditerlaw06_weighFromMarks.j1])
            | succ kj11 =>
              have H := HA.out
              clear HA
              simp only [verditerlaw06_weighFromMarks.j1] at H
              by_cases c19 : x45_11 = true
              · subst c19
                have H1 : (some false) = some r := by rw [if_pos rfl] at H; exact H
                clear H
                have H := H1
                clear H1
                obtain rfl := Option.some.inj H
                go_wp2
                go_ret
                exact ⟨by first | rfl | (simp [errW_none, errW_some] <;> rfl) | (simp [*, errW_none, errW_some] <;> rfl), by repeat (first | (with_reducible first | exact HB.out | apply below_alloc | apply pw_below_drewN | apply below_drew1) | exact HB.out)⟩
              · replace c19 := Bool.eq_false_iff.mpr c19
                subst c19
                have H1 : (if t565 = 0 then ((weigh_Marks.f (l0.length : Int) t562).bind fun bt567 => (if bt567.2 = 0 then ((verditerref06_SameLists.f kj11 bt567.1 l0).bind fun t571 => (if t571 = true then ((verditerlaw06_known.f kj11).bind fun t572 => (some t572)) else (some false))) else (some false))) else ((verditerlaw06_known.f kj11).bind fun t573 => (some t573))) = some r := by rw [if_neg (show ¬ (false = true) by decide)] at H; exact H
                clear H
                have H := H1
                clear H1
                by_cases c20 : t565 = 0
                · rw [if_pos c20] at H
                  have c20b0 : (t565 == 0) = true := beq_iff_eq.mpr c20
                  have c20b1 : (t565 != 0) = false := bne_eq_false_iff_eq.mpr c20
                  clear c20
                  replace H := Option.bind_eq_some_iff.mp H
                  obtain ⟨⟨t567, t570⟩, A210, H⟩ := H
                  replace H : (if t570 = 0 then ((verditerref06_SameLists.f kj11 t567 l0).bind fun t571 => (if t571 = true then ((verditerlaw06_known.f kj11).bind fun t572 => (some t572)) else (some false))) else (some false)) = some r := H
                  have A21 := Aside0.mk A210
                  clear A210
                  by_cases c22 : t570 = 0
                  · rw [if_pos c22] at H
                    have c22b0 : (t570 == 0) = true := beq_iff_eq.mpr c22
                    have c22b1 : (t570 != 0) = false := bne_eq_false_iff_eq.mpr c22
                    clear c22
                    replace H := Option.bind_eq_some_iff.mp H
                    obtain ⟨t571, A230, H⟩ := H
                    replace H : (if t571 = true then ((verditerlaw06_known.f kj11).bind fun t572 => (some t572)) else (some false)) = some r := H
                    have A23 := Aside0.mk A230
                    clear A230
                    by_cases c24 : t571 = true
                    · subst c24
                      have H1 : ((verditerlaw06_known.f kj11).bind fun t572 => (some t572)) = some r := by rw [if_pos rfl] at H; exact H
                      clear H
                      have H := H1
                      clear H1
                      replace H := Option.bind_eq_some_iff.mp H
                      obtain ⟨t572, A250, H⟩ := H
                      replace H : (some t572) = some r := H
                      have A25 := Aside0.mk A250
                      clear A250
                      obtain rfl := Option.some.inj H
                      obtain ⟨Ao26, co26, eo26⟩ := Kd.N_slice HO_6.out
                      subst eo26
                      go_wp2_with (first | ((with_reducible refine gate_callee (f := 51) rfl ?_); refine goesL_ (some 53) rfl rfl Try.func51 (by kernel_rfl) rfl #[.int .i64 (l0.length : Int), .slice Ao26 t562.length co26] rfl (by (try simp only [List.map_toArray, List.map_cons, List.map_nil]); first | done | rfl | (simp only [List.length_drop, List.length_take]; rfl)) ?_; (with_reducible refine (weigh_Marks.calls (l0.length : Int) _ _ t562 t567 t570 _ ?side1 ?side2 A21.out).mono ?_); (case side1 => repeat (first | exact (Kd.N_reads' HO_6.out).2.2 | (with_reducible refine Kd.C_alloc ?_ _) | (with_reducible refine Kd.C_drewN ?_ _) | (with_reducible refine Kd.C_drew ?_))); (case side2 => exact (Kd.N_reads' HO_6.out).2.1); rintro e w27 ⟨v568, rfl, ho0, hb⟩; refine ⟨_, rfl, ?_⟩; have n0_ := Aside0.mk (Kd.N_elder' (by (with_reducible repeat (first | apply Kd.N_alloc | apply Kd.N_drewN | apply Kd.N_drew)); exact HO_6.out) (Kd.N_base ho0) hb); have n1_ := Aside0.mk (Kd.N_lower (Kd.N_mono (ok' := fun k_ => some k_ ≠ (.slice Ao26 t562.length co26 : Value).ownBlock) ho0 (fun k_ hk_ => (Kd.fresh' (Kd.N_lt (by (with_reducible repeat (first | apply Kd.N_alloc | apply Kd.N_drewN | apply Kd.N_drew)); exact HO_6.out)) k_ hk_))) (below_size (by repeat (first | (with_reducible first | exact HB.out | apply below_alloc | apply pw_below_drewN | apply below_drew1) | exact HB.out)))); have n2_ := Aside0.mk (below_step (by repeat (first | (with_reducible first | exact HB.out | apply below_alloc | apply pw_below_drewN | apply below_drew1) | exact HB.out)) hb); clear HO_6; clear HB; have HO_6 := n0_; have HO569 := n1_; have HB := n2_; clear n0_ n1_ n2_; (try clear hb); (try clear hb2); (try clear hk); (try clear hi); (try clear ho0); obtain ⟨Ao28, co28, eo28⟩ := Kd.N_slice HO569.out; subst eo28) | (go_at_call 53; (with_reducible refine (verditerref06_SameLists.calls kj11 _ _ t567 _ _ l0 true _ ?side1 ?side2 ?side3 ?side4 A23.out).mono ?_); (case side1 => repeat (first | exact (Kd.N_reads' HO569.out).2.2 | (with_reducible refine Kd.C_alloc ?_ _) | (with_reducible refine Kd.C_drewN ?_ _) | (with_reducible refine Kd.C_drew ?_))); (case side2 => exact (Kd.N_reads' HO569.out).2.1); (case side3 => repeat (first | exact (Kd.C_below HR0.out HB.out) | (with_reducible refine Kd.C_alloc ?_ _) | (with_reducible refine Kd.C_drewN ?_ _) | (with_reducible refine Kd.C_drew ?_))); (case side4 => exact HC0.out); rintro e w' ⟨rfl, ⟨nd, rfl⟩⟩) | (go_at_call 25; (with_reducible refine (verditerlaw06_known.calls kj11  t572 _ A25.out).mono ?_); rintro e w29 ⟨rfl, hb⟩; have n0_ := Aside0.mk (Kd.N_below (by (with_reducible repeat (first | apply Kd.N_alloc | apply Kd.N_drewN | apply Kd.N_drew)); exact HO_6.out) hb); have n1_ := Aside0.mk (Kd.N_below (by (with_reducible repeat (first | apply Kd.N_alloc | apply Kd.N_drewN | apply Kd.N_drew)); exact HO569.out) hb); have n2_ := Aside0.mk (below_step (by repeat (first | (with_reducible first | exact HB.out | apply below_alloc | apply pw_below_drewN | apply below_drew1) | exact HB.out)) hb); clear HO_6; clear HO569; clear HB; have HO_6 := n0_; have HO569 := n1_; have HB := n2_; clear n0_ n1_ n2_; (try clear hb); (try clear hb2); (try clear hk); (try clear hi)))
                      go_ret
                      exact ⟨by first | rfl | (simp [errW_none, errW_some] <;> rfl) | (simp [*, errW_none, errW_some] <;> rfl), by repeat (first | (with_reducible first | exact HB.out | apply below_alloc | apply pw_below_drewN | apply below_drew1) | exact HB.out)⟩
                    · replace c24 := Bool.eq_false_iff.mpr c24
                      subst c24
                      have H1 : (some false) = some r := by rw [if_neg (show ¬ (false = true) by decide)] at H; exact H
                      clear H
                      have H := H1
                      clear H1
                      obtain rfl := Option.some.inj H
                      obtain ⟨Ao30, co30, eo30⟩ := Kd.N_slice HO_6.out
                      subst eo30
                      go_wp2_with (first | ((with_reducible refine gate_callee (f := 51) rfl ?_); refine goesL_ (some 53) rfl rfl Try.func51 (by kernel_rfl) rfl #[.int .i64 (l0.length : Int), .slice Ao30 t562.length co30] rfl (by (try simp only [List.map_toArray, List.map_cons, List.map_nil]); first | done | rfl | (simp only [List.length_drop, List.length_take]; rfl)) ?_; (with_reducible refine (weigh_Marks.calls (l0.length : Int) _ _ t562 t567 t570 _ ?side1 ?side2 A21.out).mono ?_); (case side1 => repeat (first | exact (Kd.N_reads' HO_6.out).2.2 | (with_reducible refine Kd.C_alloc ?_ _) | (with_reducible refine Kd.C_drewN ?_ _) | (with_reducible refine Kd.C_drew ?_))); (case side2 => exact (Kd.N_reads' HO_6.out).2.1); rintro e w31 ⟨v568, rfl, ho0, hb⟩; refine ⟨_, rfl, ?_⟩; have n0_ := Aside0.mk (Kd.N_elder' (by (with_reducible repeat (first | apply Kd.N_alloc | apply Kd.N_drewN | apply Kd.N_drew)); exact HO_6.out) (Kd.N_base ho0) hb); have n1_ := Aside0.mk (Kd.N_lower (Kd.N_mono (ok' := fun k_ => some k_ ≠ (.slice Ao30 t562.length co30 : Value).ownBlock) ho0 (fun k_ hk_ => (Kd.fresh' (Kd.N_lt (by (with_reducible repeat (first | apply Kd.N_alloc | apply Kd.N_drewN | apply Kd.N_drew)); exact HO_6.out)) k_ hk_))) (below_size (by repeat (first | (with_reducible first | exact HB.out | apply below_alloc | apply pw_below_drewN | apply below_drew1) | exact HB.out)))); have n2_ := Aside0.mk (below_step (by repeat (first | (with_reducible first | exact HB.out | apply below_alloc | apply pw_below_drewN | apply below_drew1) | exact HB.out)) hb); clear HO_6; clear HB; have HO_6 := n0_; have HO569 := n1_; have HB := n2_; clear n0_ n1_ n2_; (try clear hb); (try clear hb2); (try clear hk); (try clear hi); (try clear ho0); obtain ⟨Ao32, co32, eo32⟩ := Kd.N_slice HO569.out; subst eo32) | (go_at_call 53; (with_reducible refine (verditerref06_SameLists.calls kj11 _ _ t567 _ _ l0 false _ ?side1 ?side2 ?side3 ?side4 A23.out).mono ?_); (case side1 => repeat (first | exact (Kd.N_reads' HO569.out).2.2 | (with_reducible refine Kd.C_alloc ?_ _) | (with_reducible refine Kd.C_drewN ?_ _) | (with_reducible refine Kd.C_drew ?_))); (case side2 => exact (Kd.N_reads' HO569.out).2.1); (case side3 => repeat (first | exact (Kd.C_below HR0.out HB.out) | (with_reducible refine Kd.C_alloc ?_ _) | (with_reducible refine Kd.C_drewN ?_ _) | (with_reducible refine Kd.C_drew ?_))); (case side4 => exact HC0.out); rintro e w' ⟨rfl, ⟨nd, rfl⟩⟩))
                      go_ret
                      exact ⟨by first | rfl | (simp [errW_none, errW_some] <;> rfl) | (simp [*, errW_none, errW_some] <;> rfl), by repeat (first | (with_reducible first | exact HB.out | apply below_alloc | apply pw_below_drewN | apply below_drew1) | exact HB.out)⟩
                  · rw [if_neg c22] at H
                    have c22b0 : (t570 == 0) = false := beq_eq_false_iff_ne.mpr c22
                    have c22b1 : (t570 != 0) = true := bne_iff_ne.mpr c22
                    obtain rfl := Option.some.inj H
                    obtain ⟨Ao33, co33, eo33⟩ := Kd.N_slice HO_6.out
                    subst eo33
                    go_wp2_with (first | ((with_reducible refine gate_callee (f := 51) rfl ?_); refine goesL_ (some 53) rfl rfl Try.func51 (by kernel_rfl) rfl #[.int .i64 (l0.length : Int), .slice Ao33 t562.length co33] rfl (by (try simp only [List.map_toArray, List.map_cons, List.map_nil]); first | done | rfl | (simp only [List.length_drop, List.length_take]; rfl)) ?_; (with_reducible refine (weigh_Marks.calls (l0.length : Int) _ _ t562 t567 t570 _ ?side1 ?side2 A21.out).mono ?_); (case side1 => repeat (first | exact (Kd.N_reads' HO_6.out).2.2 | (with_reducible refine Kd.C_alloc ?_ _) | (with_reducible refine Kd.C_drewN ?_ _) | (with_reducible refine Kd.C_drew ?_))); (case side2 => exact (Kd.N_reads' HO_6.out).2.1); rintro e w34 ⟨v568, rfl, ho0, hb⟩; refine ⟨_, rfl, ?_⟩; have n0_ := Aside0.mk (Kd.N_elder' (by (with_reducible repeat (first | apply Kd.N_alloc | apply Kd.N_drewN | apply Kd.N_drew)); exact HO_6.out) (Kd.N_base ho0) hb); have n1_ := Aside0.mk (Kd.N_lower (Kd.N_mono (ok' := fun k_ => some k_ ≠ (.slice Ao33 t562.length co33 : Value).ownBlock) ho0 (fun k_ hk_ => (Kd.fresh' (Kd.N_lt (by (with_reducible repeat (first | apply Kd.N_alloc | apply Kd.N_drewN | apply Kd.N_drew)); exact HO_6.out)) k_ hk_))) (below_size (by repeat (first | (with_reducible first | exact HB.out | apply below_alloc | apply pw_below_drewN | apply below_drew1) | exact HB.out)))); have n2_ := Aside0.mk (below_step (by repeat (first | (with_reducible first | exact HB.out | apply below_alloc | apply pw_below_drewN | apply below_drew1) | exact HB.out)) hb); clear HO_6; clear HB; have HO_6 := n0_; have HO569 := n1_; have HB := n2_; clear n0_ n1_ n2_; (try clear hb); (try clear hb2); (try clear hk); (try clear hi); (try clear ho0)))
                    go_ret
                    exact ⟨by first | rfl | (simp [errW_none, errW_some] <;> rfl) | (simp [*, errW_none, errW_some] <;> rfl), by repeat (first | (with_reducible first | exact HB.out | apply below_alloc | apply pw_below_drewN | apply below_drew1) | exact HB.out)⟩
                · rw [if_neg c20] at H
                  have c20b0 : (t565 == 0) = false := beq_eq_false_iff_ne.mpr c20
                  have c20b1 : (t565 != 0) = true := bne_iff_ne.mpr c20
                  replace H := Option.bind_eq_some_iff.mp H
                  obtain ⟨t573, A350, H⟩ := H
                  replace H : (some t573) = some r := H
                  have A35 := Aside0.mk A350
                  clear A350
                  obtain rfl := Option.some.inj H
                  go_wp2_with (first | ((with_reducible refine gate_callee (f := 25) rfl ?_); refine goesL_ (some 48) rfl rfl Try.func25 (by kernel_rfl) rfl #[] rfl (by (try simp only [List.map_toArray, List.map_cons, List.map_nil]); first | done | rfl | (simp only [List.length_drop, List.length_take]; rfl)) ?_; (with_reducible refine (verditerlaw06_known.calls kj11  t573 _ A35.out).mono ?_); rintro e w36 ⟨rfl, hb⟩; refine ⟨_, rfl, ?_⟩; have n0_ := Aside0.mk (Kd.N_below (by (with_reducible repeat (first | apply Kd.N_alloc | apply Kd.N_drewN | apply Kd.N_drew)); exact HO_6.out) hb); have n1_ := Aside0.mk (below_step (by repeat (first | (with_reducible first | exact HB.out | apply below_alloc | apply pw_below_drewN | apply below_drew1) | exact HB.out)) hb); clear HO_6; clear HB; have HO_6 := n0_; have HB := n1_; clear n0_ n1_; (try clear hb); (try clear hb2); (try clear hk); (try clear hi)))
                  go_ret
                  exact ⟨by first | rfl | (simp [errW_none, errW_some] <;> rfl) | (simp [*, errW_none, errW_some] <;> rfl), by repeat (first | (with_reducible first | exact HB.out | apply below_alloc | apply pw_below_drewN | apply below_drew1) | exact HB.out)⟩

end Go.Proofs.Ytdbeochifofdoaa.X
end

section
/-! The law WeighFromMarks: own := KeepTable(marks); what it states; KeptTable(own, marks). -/
namespace Go.Proofs.Ytdbeochifofdoaa.X
open Go.RowKit Go.Proofs.YtdbeochifofdoaaW.PrintWords Go.Proofs.YtdbeochifofdoaaW.PrintLast Go.Proofs.YtdbeochifofdoaaW.PrintMore
set_option linter.unusedVariables false
set_option linter.unusedSimpArgs false

set_option maxHeartbeats 4000000 in
set_option maxRecDepth 100000 in
theorem weighFromMarks_calls (k : Nat) (A : Option Addr) (l ys : List (List Int)) (w : World) (hl : Kd.C (Kd.slice 3 (Kd.int .i64)) w A l.length l) (hc : l.length ≤ ys.length) (hF : FullT w A ys) (hn : ys.length ≤ 5864062014805)
    (hs : ∀ y, y ∈ ys → y.length ≤ 17592186044416) (h : verditerlaw06_weighFromMarks.f k l = some true) :
    Calls Try.prog 13 #[.slice A l.length ys.length] w fun e w' => e = .returned (.bool true) ∧ Below w.heap.size w w' := by
  have HL := Aside0.mk hl
  have HF := Aside0.mk hF
  have HS := Aside0.mk hs
  have H := Aside0.mk h
  clear hl hF hs h
  go_enter Try.func13, Try.ntmps13
  go_wp2_with fail
  refine (keepT_calls A l.length ys w HF.out hc hn HS.out).mono ?_
  rintro e w1 ⟨v, rfl, hN, hB1⟩
  obtain ⟨Ao, co, rfl⟩ := Kd.N_slice hN
  have HO := Aside0.mk (Kd.N_reads' hN).2.2
  have HB1 := Aside0.mk hB1
  clear hN hB1
  go_wp2_with fail
  refine (verditerlaw06_weighFromMarks.calls k A ys.length l true _ (Kd.C_below HL.out HB1.out) hc H.out).mono ?_
  rintro e w2 ⟨rfl, hB2⟩
  have HB2 := Aside0.mk hB2
  have HB := Aside0.mk (HB1.out.trans (hB2.mono HB1.out.size))
  clear hB2
  go_wp2_with fail
  refine (keptT_calls Ao co A l.length ys _ (Kd.C_below HO.out HB2.out) (HF.out.below HB.out) hc).mono ?_
  rintro e w3 ⟨rfl, hB3⟩
  have HB3 := Aside0.mk (HB.out.trans (hB3.mono HB.out.size))
  clear hB3
  go_wp2
  go_ret
  exact ⟨rfl, HB3.out⟩
end Go.Proofs.Ytdbeochifofdoaa.X
end

section
/-! verditerref01.KeepWeighings. -/
namespace Go.Proofs.Ytdbeochifofdoaa.X
open Go.RowKit Go.Proofs.YtdbeochifofdoaaW.PrintWords Go.Proofs.YtdbeochifofdoaaW.PrintLast Go.Proofs.YtdbeochifofdoaaW.PrintMore
set_option linter.unusedVariables false
set_option linter.unusedSimpArgs false

/-- The cells of a list of weighings up to its capacity: of each weighing both lists, with their whole contents. -/
def FullW (W : World) (A : Option Addr) (ys : List S53) : Prop :=
  ∀ i, i < ys.length → ∃ ad Al nl Ar nr, A = some ad ∧ W.cell? (ad.add (i * 2)) = some (.slice Al nl (ys.getD i z53).f0.length) ∧
    W.cell? ⟨(ad.add (i * 2)).block, (ad.add (i * 2)).off + 1, none⟩ = some (.slice Ar nr (ys.getD i z53).f1.length) ∧
    nl ≤ (ys.getD i z53).f0.length ∧ nr ≤ (ys.getD i z53).f1.length ∧
    Kd.C (Kd.int .i64) W Al (ys.getD i z53).f0.length (ys.getD i z53).f0 ∧ Kd.C (Kd.int .i64) W Ar (ys.getD i z53).f1.length (ys.getD i z53).f1
theorem FullW.below {W W' : World} {A : Option Addr} {ys : List S53} (h : FullW W A ys) (hb : Below W.heap.size W W') : FullW W' A ys := by
  intro i hi
  obtain ⟨ad, Al, nl, Ar, nr, e, h1, h2, h3, h4, h5, h6⟩ := h i hi
  exact ⟨ad, Al, nl, Ar, nr, e, (hb.cell (World.block_lt_of_cell? W _ h1)).trans h1, (hb.cell (World.block_lt_of_cell? W _ h2)).trans h2, h3, h4, Kd.C_below h5 hb, Kd.C_below h6 hb⟩

/-- Two new lists lie in none of the rows so far. -/
theorem keep_fresh {w wo w1 w2 : World} {v : Value} {out : List S53} {u1 u2 : Value} {l1 l2 : List Int} (h0 : w.heap.size ≤ wo.heap.size) (h1 : wo.drew.heap.size ≤ w1.heap.size)
    (hN : Kd.N k53 53 wo w.heap.size (fun k_ => w.heap.size ≤ k_) v out) (hR1 : Kd.R (Kd.int .i64) 3 w1 wo.drew.heap.size (fun _ => True) u1 l1) (hR2 : Kd.R (Kd.int .i64) 3 w2 w1.heap.size (fun _ => True) u2 l2) :
    ∀ k, (some k = u1.ownBlock ∨ some k = u2.ownBlock) → w.heap.size ≤ k ∧ some k ≠ v.ownBlock := by
  intro k hk
  have e : wo.drew.heap.size = wo.heap.size := rfl
  have hb : wo.heap.size ≤ k := by
    rcases hk with h | h
    · have := Kd.R_base hR1 k h.symm
      omega
    · have := Kd.R_base hR2 k h.symm
      omega
  refine ⟨by omega, fun he => ?_⟩
  have := Kd.N_lt hN k he.symm
  omega

set_option maxHeartbeats 4000000 in
set_option maxRecDepth 100000 in
theorem keepW_calls (A : Option Addr) (n : Nat) (ys : List S53) (w : World) (hF : FullW w A ys) (hn : n ≤ ys.length) (hl : ys.length ≤ 2932031007402)
    (hs : ∀ y, y ∈ ys → y.f0.length ≤ 17592186044416 ∧ y.f1.length ≤ 17592186044416) :
    Calls Try.prog 17 #[.slice A n ys.length] w fun e w' => ∃ v : Value, e = .returned v ∧ Kd.N k53 53 w' w.heap.size (fun k_ => w.heap.size ≤ k_) v ys ∧ Below w.heap.size w w' := by
  have HF := Aside0.mk hF
  have HS := Aside0.mk hs
  clear hF hs
  go_enter Try.func17, Try.ntmps17
  go_wp2
  go_loopg [3, 4] ys.length (fun gg v3 s wr => ∃ (i : Nat) (out : List S53), i ≤ ys.length ∧ ys.length - i ≤ gg ∧ s = .int .i64 i ∧ Aside0 (Below w.heap.size w wr) ∧ Aside0 (Kd.N k53 53 wr w.heap.size (fun k_ => w.heap.size ≤ k_) v3 out) ∧ Aside0 (out = ys.take i))
  case atStart => exact ⟨0, [], Nat.zero_le _, by omega, rfl, ⟨Below.refl _ _⟩, ⟨Kd.N_nil _ _ _ _ _⟩, ⟨by simp⟩⟩
  case round =>
    obtain ⟨i, out, hi, hg, rfl, BW, HO, AX⟩ := hrel
    by_cases hil : i < ys.length
    · have hilz : (i : Int) < (ys.length : Int) := by omega
      obtain ⟨ad, Al, nl, Ar, nr, e1, h1, h2, h3, h4, h5, h6⟩ := HF.out i hil
      subst e1
      have HSi := Aside0.mk (HS.out _ (mem_getD z53 ys i hil))
      have HT : Aside0 (ys.take (i + 1) = ys.take i ++ [ys.getD i z53]) := ⟨by rw [List.take_succ_eq_append_getElem hil]; simp [List.getD_eq_getElem?_getD, List.getElem?_eq_getElem hil]⟩
      have hol : out.length ≤ i := by rw [AX.out]; simp; omega
      obtain ⟨Av, cv, rfl⟩ := Kd.N_slice HO.out
      generalize hy : ys.getD i z53 = y at *
      clear hy
      obtain ⟨xl, xr⟩ := y
      dsimp only at h1 h2 h3 h4 h5 h6 HSi
      have CL : Aside0 (∀ W, (Below w.heap.size w W ∧ W.cell? (ad.add (i * 2)) = some (.slice Al nl xl.length) ∧ W.cell? ⟨(ad.add (i * 2)).block, (ad.add (i * 2)).off + 1, none⟩ = some (.slice Ar nr xr.length)) →
          Calls Try.prog 33 #[.slice Al nl xl.length] W fun e w' => ∃ A1 c1, e = .returned (.slice A1 xl.length c1) ∧ Kd.R (Kd.int .i64) 3 w' W.heap.size (fun _ => True) (.slice A1 xl.length c1) xl ∧ Below W.heap.size W w' ∧
            (Below w.heap.size w w' ∧ w'.cell? (ad.add (i * 2)) = some (.slice Al nl xl.length) ∧ w'.cell? ⟨(ad.add (i * 2)).block, (ad.add (i * 2)).off + 1, none⟩ = some (.slice Ar nr xr.length))) :=
        ⟨fun W hW => (keepInts_calls Al nl xl W (Kd.C_below h5 hW.1) h3 HSi.out.1).mono (by
          rintro e w' ⟨v, rfl, hR, hb⟩
          obtain ⟨A1, c1, rfl⟩ := Kd.R_slice hR
          exact ⟨A1, c1, rfl, hR, hb, hW.1.trans (hb.mono hW.1.size), (hb.cell (World.block_lt_of_cell? W _ hW.2.1)).trans hW.2.1, (hb.cell (World.block_lt_of_cell? W _ hW.2.2)).trans hW.2.2⟩)⟩
      have CR : Aside0 (∀ W, (Below w.heap.size w W ∧ W.cell? (ad.add (i * 2)) = some (.slice Al nl xl.length) ∧ W.cell? ⟨(ad.add (i * 2)).block, (ad.add (i * 2)).off + 1, none⟩ = some (.slice Ar nr xr.length)) →
          Calls Try.prog 33 #[.slice Ar nr xr.length] W fun e w' => ∃ A1 c1, e = .returned (.slice A1 xr.length c1) ∧ Kd.R (Kd.int .i64) 3 w' W.heap.size (fun _ => True) (.slice A1 xr.length c1) xr ∧ Below W.heap.size W w' ∧
            (Below w.heap.size w w' ∧ w'.cell? (ad.add (i * 2)) = some (.slice Al nl xl.length) ∧ w'.cell? ⟨(ad.add (i * 2)).block, (ad.add (i * 2)).off + 1, none⟩ = some (.slice Ar nr xr.length))) :=
        ⟨fun W hW => (keepInts_calls Ar nr xr W (Kd.C_below h6 hW.1) h4 HSi.out.2).mono (by
          rintro e w' ⟨v, rfl, hR, hb⟩
          obtain ⟨A1, c1, rfl⟩ := Kd.R_slice hR
          exact ⟨A1, c1, rfl, hR, hb, hW.1.trans (hb.mono hW.1.size), (hb.cell (World.block_lt_of_cell? W _ hW.2.1)).trans hW.2.1, (hb.cell (World.block_lt_of_cell? W _ hW.2.2)).trans hW.2.2⟩)⟩
      have hS0 : Below w.heap.size w wr.drew ∧ wr.drew.cell? (ad.add (i * 2)) = some (.slice Al nl xl.length) ∧ wr.drew.cell? ⟨(ad.add (i * 2)).block, (ad.add (i * 2)).off + 1, none⟩ = some (.slice Ar nr xr.length) :=
        ⟨below_drew1 BW.out, (BW.out.cell (World.block_lt_of_cell? w _ h1)).trans h1, (BW.out.cell (World.block_lt_of_cell? w _ h2)).trans h2⟩
      have h1o := h1
      have h2o := h2
      replace h1 := (BW.out.cell (World.block_lt_of_cell? w _ h1)).trans h1
      replace h2 := (BW.out.cell (World.block_lt_of_cell? w _ h2)).trans h2
      clear h5 h6
      have b1 : (ad.add (i * 2)).block < w.heap.size := World.block_lt_of_cell? w _ h1o
      have b2 : (⟨(ad.add (i * 2)).block, (ad.add (i * 2)).off + 1, none⟩ : Addr).block < w.heap.size := b1
      have SK : ∀ W, Below w.heap.size w W → (Below w.heap.size w W ∧ W.cell? (ad.add (i * 2)) = some (.slice Al nl xl.length) ∧ W.cell? ⟨(ad.add (i * 2)).block, (ad.add (i * 2)).off + 1, none⟩ = some (.slice Ar nr xr.length)) := fun W hb => ⟨hb, (hb.cell b1).trans h1o, (hb.cell b2).trans h2o⟩
      go_wp2
      go_region_held3 (fun W => Below w.heap.size w W ∧ W.cell? (ad.add (i * 2)) = some (.slice Al nl xl.length) ∧ W.cell? ⟨(ad.add (i * 2)).block, (ad.add (i * 2)).off + 1, none⟩ = some (.slice Ar nr xr.length)) ((first | with_reducible assumption | exact hS0 | exact SK _ (below_alloc hS2.1 _) | exact SK _ hB3 | fail)) (first | (go_at_call 33; with_reducible refine (CL.out _ ?_).mono ?_; (first | with_reducible assumption | exact hS0); rintro e w1 ⟨A1, c1, rfl, hR1, hB1, hS1⟩; have hN1 := Kd.N_below (Kd.N_drew HO.out) hB1) | (go_at_call 33; with_reducible refine (CR.out _ ?_).mono ?_; (first | with_reducible assumption | exact hS1); rintro e w2 ⟨A2, c2, rfl, hR2, hB2, hS2⟩; have hR1' := Kd.R_below hR1 hB2; have hN2 := Kd.N_below hN1 hB2) | (refine Kd.N_append_step k53 (w0 := w) w.heap.size (by rfl) (.tmp 15) (.tmp 29) 22 53 (.agg #[(.slice none 0 0), (.slice none 0 0)]) 48 rfl Try.underlying22 info53 rfl (by decide) (by omega) (.slice Av out.length cv) out (⟨xl, xr⟩ : S53) [.slice A1 xl.length c1, .slice A2 xr.length c2] (fun k_ => w.heap.size ≤ k_) (fun k_ => some k_ = (.slice A1 xl.length c1 : Value).ownBlock ∨ some k_ = (.slice A2 xr.length c2 : Value).ownBlock) rfl rfl ?aP ?aK ?aF ?aO ?aB ?aS ?aL ?_; (case aP => exact Kd.FK_of_M (k53_mkM _ w.heap.size _ (⟨xl, xr⟩ : S53) (Kd.R_mono (Kd.R_tight rfl (Kd.R_lower hR1' BW.out.size)) (fun _ h => Or.inl h)) (Kd.R_mono (Kd.R_tight rfl (Kd.R_lower hR2 (Nat.le_trans BW.out.size hB1.size))) (fun _ h => Or.inr h)))); (case aK => exact keep_fresh BW.out.size hB1.size HO.out hR1 hR2); (case aF => exact fun q hq => Nat.le_trans hS2.1.size hq); (case aO => exact hN2); (case aB => exact hS2.1); (case aS => exact hS2.1.size); (case aL => omega); intro v3 w3 hN3 hB3 _ _))
      have HN := Aside0.mk hN3
      have HB3 := Aside0.mk hB3
      clear hN3 hB3 hN2 hN1 hR1 hR1' hR2 hB1 hB2 hS1 hS2 hS0
      go_wp2
      go_roundg (ys.length - (i + 1))
      case measure => omega
      case rel =>
        refine ⟨i + 1, _, by omega, by omega, by go_num, HB3, HN, ⟨?_⟩⟩
        rw [HT.out, AX.out]
    · have hilz : ¬ (i : Int) < (ys.length : Int) := by omega
      obtain rfl : i = ys.length := by omega
      go_wp2
      go_ret
      refine ⟨_, rfl, ?_, BW.out⟩
      have h := HO.out
      rw [AX.out, List.take_of_length_le (Nat.le_refl _)] at h
      exact h
end Go.Proofs.Ytdbeochifofdoaa.X
end

section
/-! A plan that comes in: what its cells hold, up to its length and up to its capacity. -/
namespace Go.Proofs.Ytdbeochifofdoaa.X
open Go.ChangeShapes Go.WideShapes Go.RowKit Go.Proofs.YtdbeochifofdoaaW.PrintWords Go.Proofs.YtdbeochifofdoaaW.PrintLast Go.Proofs.YtdbeochifofdoaaW.PrintMore
set_option linter.unusedVariables false
set_option linter.unusedSimpArgs false

theorem list_of {α : Type} (d : α) (n : Nat) (P : Nat → α → Prop) (h : ∀ i, i < n → ∃ y, P i y) : ∃ ys : List α, ys.length = n ∧ ∀ i, i < n → P i (ys.getD i d) := by
  classical
  refine ⟨(List.range n).map (fun i => if h' : i < n then (h i h').choose else d), by simp, fun i hi => ?_⟩
  have : ((List.range n).map (fun i => if h' : i < n then (h i h').choose else d)).getD i d = (h i hi).choose := by simp [List.getD_eq_getElem?_getD, hi]
  rw [this]
  exact (h i hi).choose_spec
theorem C_take {α : Type} {d : Kd α} {w : World} {A : Option Addr} {n : Nat} {xs : List α} (h : d.C w A n xs) (m : Nat) (hm : m ≤ n) : d.C w A m (xs.take m) := by
  obtain ⟨h1, h2, h3⟩ := h
  refine ⟨by rw [List.length_take]; omega, by omega, fun h0 => ?_⟩
  obtain ⟨ad, e, hc⟩ := h3 (by omega)
  refine ⟨ad, e, fun j p hj => hc j p ?_⟩
  rw [List.getElem?_take] at hj
  split at hj
  · exact hj
  · cases hj
theorem weights_mem_all {H : Type} {P : Program} {t : TypeId} : ∀ {ds : List (DataW H)} {d : DataW H}, d ∈ ds → ∀ n ∈ d.weights P t, n ∈ DataW.weightsAll P t ds
  | d0 :: ds, d, hd, n, hn => by
    rw [DataW.weightsAll, List.mem_append]
    rcases List.mem_cons.1 hd with rfl | hd
    · exact .inl hn
    · exact .inr (weights_mem_all hd n hn)
  | [], _, hd, _, _ => by cases hd
theorem o_bytes3 : Try.prog.bytesOf 3 = 8 := by kernel_rfl
theorem o_bytes53 : Try.prog.bytesOf 53 = 48 := by kernel_rfl
theorem o_cells3 : Try.prog.cellsOf 3 = 1 := by kernel_rfl
theorem o_cells43 : Try.prog.cellsOf 43 = 1 := by kernel_rfl
theorem o_cells53 : Try.prog.cellsOf 53 = 2 := by kernel_rfl
/-- A list of numbers that comes in. -/
theorem open_intsK {H : Type} {enc : TypeId × Value → H} {W : World} {t : TypeId} {fuel : Nat} {cs : List Value} {x : DataW H × List MemPlace} (ht : Try.prog.underlying t = some (.slice 3))
    (h : DataW.trod enc Try.prog W 0 (fun _ => true) true fuel t cs = some x) (hsz : ∀ n ∈ x.1.weights Try.prog t, n ≤ reachBytes) :
    ∃ (A : Option Addr) (n : Nat) (ys : List Int), cs = [.slice A n ys.length] ∧ n ≤ ys.length ∧ ys.length ≤ 17592186044416 ∧ Kd.C (Kd.int .i64) W A ys.length ys ∧ ∀ z, z ∈ ys → (Lit.int .i64 z).wf = true := by
  rcases open_ints ht Try.underlying3 o_cells3 h with ⟨rfl, rfl⟩ | ⟨a, len, cap, zs, rfl, _, hl, hm, hz, rfl, hcell, hwz⟩
  · exact ⟨none, 0, [], rfl, Nat.le_refl _, by simp, ⟨rfl, by simp, fun h => absurd h (by simp)⟩, fun z hz => by cases hz⟩
  · rw [if_pos rfl] at hz
    subst hz
    have hw : zs.length * 8 ≤ reachBytes := by
      have := hsz ((lits (H := H) .i64 (zs.take len) ++ lits (H := H) .i64 (zs.drop len)).length * Try.prog.bytesOf 3) (by simp [DataW.weights, ht])
      rw [o_bytes3] at this
      simpa [lits, Nat.min_eq_left hl, Nat.add_sub_cancel' hl] using this
    unfold reachBytes at hw
    refine ⟨some a, len, zs, rfl, hl, by omega, Kd.C_of_reads (d := (0 : Int)) (h1 := fun _ => rfl) ⟨rfl, by omega, fun _ => ⟨a, rfl, fun j hj => hcell j hj⟩⟩, fun z hz => ?_⟩
    exact hwz z hz
/-- One weighing that comes in, and its lists' lengths. -/
structure PlanAt (W : World) (a : Addr) (z : S53 × Nat × Nat) : Prop where
  at_ : ∃ Al Ar, W.cell? a = some (.slice Al z.2.1 z.1.f0.length) ∧ W.cell? ⟨a.block, a.off + 1, none⟩ = some (.slice Ar z.2.2 z.1.f1.length) ∧ Kd.C (Kd.int .i64) W Al z.1.f0.length z.1.f0 ∧ Kd.C (Kd.int .i64) W Ar z.1.f1.length z.1.f1
  nl : z.2.1 ≤ z.1.f0.length
  nr : z.2.2 ≤ z.1.f1.length
  bl : z.1.f0.length ≤ 17592186044416
  br : z.1.f1.length ≤ 17592186044416
  il : ∀ x, x ∈ z.1.f0 → (Lit.int .i64 x).wf = true
  ir : ∀ x, x ∈ z.1.f1 → (Lit.int .i64 x).wf = true
theorem o_underlying43 : Try.prog.underlying 43 = some (.slice 3) := by kernel_rfl
theorem o_two_of {α : Type} {l : List α} (h : l.length = 2) : ∃ a b, l = [a, b] := by
  match l, h with
  | [a, b], _ => exact ⟨a, b, rfl⟩
theorem open_weighing {H : Type} {enc : TypeId × Value → H} {W : World} {a : Addr} {fuel : Nat} {cs : List Value} {x : DataW H × List MemPlace} (hc : W.cells? 0 a 2 = some cs)
    (h : DataW.trod enc Try.prog W 0 (fun _ => true) true fuel 53 cs = some x) (hsz : ∀ n ∈ x.1.weights Try.prog 53, n ≤ reachBytes) : ∃ z, PlanAt W a z := by
  obtain ⟨xs, n, _, rfl, hcs, hxs, hf⟩ := DataW.trod_struct Try.underlying53 h
  obtain ⟨_, h2, hcell⟩ := World.cells?_some hc
  obtain ⟨c0, c1, rfl⟩ : ∃ c0 c1, cs = [c0, c1] := o_two_of h2
  obtain ⟨x0, x1, rfl⟩ : ∃ c0 c1, xs = [c0, c1] := o_two_of hxs
  have e0 := hf 0 ⟨"Left", 43, 0, false, "", "", 0⟩ rfl
  have e1 := hf 1 ⟨"Right", 43, 1, false, "", "", 24⟩ rfl
  rw [o_cells43] at e0 e1
  simp only [DataW.weights, Try.underlying53, List.map_cons, List.map_nil, DataW.weightsEach, List.append_nil, List.mem_append] at hsz
  obtain ⟨A0, n0, ys0, q0, l0, b0, C0, i0⟩ := open_intsK o_underlying43 e0 (fun m hm => hsz m (.inl hm))
  obtain ⟨A1, n1, ys1, q1, l1, b1, C1, i1⟩ := open_intsK o_underlying43 e1 (fun m hm => hsz m (.inr hm))
  obtain rfl : c0 = .slice A0 n0 ys0.length := by simpa using q0
  obtain rfl : c1 = .slice A1 n1 ys1.length := by simpa using q1
  have k0 := hcell 0 (by omega)
  have k1 := hcell 1 (by omega)
  refine ⟨(⟨ys0, ys1⟩, n0, n1), ⟨A0, A1, ?_, ?_, C0, C1⟩, l0, l1, b0, b1, i0, i1⟩
  · simpa [Addr.add] using k0
  · simpa [Addr.add] using k1
theorem open_plan {H : Type} {enc : TypeId × Value → H} {W : World} {v : Value} {d : DataW H} {ps : List MemPlace} (h : DataW.Trod enc Try.prog W 0 (fun _ => true) true 22 v d ps) (hv : v.cells = #[v])
    (hsz : ∀ n ∈ d.weights Try.prog 22, n ≤ reachBytes) :
    ∃ (A : Option Addr) (l ys : List S53), v = .slice A l.length ys.length ∧ l.length ≤ ys.length ∧ ys.length ≤ 2932031007402 ∧ Kd.C k53 W A l.length l ∧ FullW W A ys ∧
      (∀ y, y ∈ ys → y.f0.length ≤ 17592186044416 ∧ y.f1.length ≤ 17592186044416) ∧ (∀ y, y ∈ l → (∀ x, x ∈ y.f0 → (Lit.int .i64 x).wf = true) ∧ (∀ x, x ∈ y.f1 → (Lit.int .i64 x).wf = true) ∧ y.f0.length ≤ 17592186044416 ∧ y.f1.length ≤ 17592186044416) := by
  obtain ⟨fuel, hf⟩ := h
  rw [hv] at hf
  rcases DataW.trod_slice Try.underlying22 hf with ⟨hcs, _⟩ | ⟨a, len, cap, elems, rest, n, _, hcs, hx, _, hl, hm, hlen, hel, hsp, _⟩
  · obtain rfl : v = .slice none 0 0 := by simpa using hcs
    exact ⟨none, [], [], rfl, Nat.le_refl _, by simp, ⟨rfl, by simp, fun h => absurd h (by simp)⟩, fun i hi => absurd hi (by simp), fun y hy => (by cases hy), fun y hy => (by cases hy)⟩
  obtain rfl : v = .slice (some a) len cap := by simpa using hcs
  obtain ⟨hrl, hre⟩ := hsp rfl
  obtain ⟨rfl, _⟩ := Prod.mk.inj hx
  simp only [DataW.weights, Try.underlying22, o_bytes53, List.mem_cons, List.mem_append] at hsz
  have hb : (len + (cap - len)) * 48 ≤ reachBytes := by
    have := hsz _ (.inl rfl)
    simpa [hlen, hrl] using this
  unfold reachBytes at hb
  rw [o_cells53] at hel hre
  have each : ∀ i, i < cap → ∃ z, PlanAt W (a.add (i * 2)) z := by
    intro i hi
    by_cases hil : i < len
    · have e := hel i hil
      rw [List.getElem?_eq_getElem (by omega)] at e
      obtain ⟨cs, hc, ht⟩ := Option.bind_eq_some_iff.1 e
      exact open_weighing hc ht (fun m hm => hsz m (.inr (.inl (weights_mem_all (List.mem_map.2 ⟨_, List.getElem_mem _, rfl⟩) m hm))))
    · have e := hre (i - len) (by omega)
      rw [List.getElem?_eq_getElem (by omega), show len + (i - len) = i by omega] at e
      obtain ⟨cs, hc, ht⟩ := Option.bind_eq_some_iff.1 e
      exact open_weighing hc ht (fun m hm => hsz m (.inr (.inr (weights_mem_all (List.mem_map.2 ⟨_, List.getElem_mem _, rfl⟩) m hm))))
  obtain ⟨zs, hzl, hz⟩ := list_of (z53, 0, 0) cap _ each
  have hget : ∀ i, i < cap → (zs.map (·.1)).getD i z53 = (zs.getD i (z53, 0, 0)).1 := by
    intro i hi
    simp [List.getD_eq_getElem?_getD, List.getElem?_map, List.getElem?_eq_getElem (show i < zs.length by omega)]
  have hmem : ∀ z, z ∈ zs → ∃ b, PlanAt W b z := by
    intro z h
    obtain ⟨i, hi, rfl⟩ := List.mem_iff_getElem.1 h
    have := hz i (by omega)
    rw [List.getD_eq_getElem?_getD, List.getElem?_eq_getElem hi] at this
    exact ⟨_, this⟩
  have hl2 : ((zs.take len).map fun z => (⟨z.1.f0.take z.2.1, z.1.f1.take z.2.2⟩ : S53)).length = len := by simp; omega
  have hl3 : (zs.map (·.1)).length = cap := by simp; omega
  refine ⟨some a, (zs.take len).map fun z => ⟨z.1.f0.take z.2.1, z.1.f1.take z.2.2⟩, zs.map (·.1), by rw [hl2, hl3], by omega, by omega, ?_, ?_, ?_, ?_⟩
  · refine ⟨rfl, by omega, fun h0 => ⟨a, rfl, fun j p hj => ?_⟩⟩
    rw [List.getElem?_map, Option.map_eq_some_iff] at hj
    obtain ⟨z, hj, rfl⟩ := hj
    rw [List.getElem?_take] at hj
    split at hj
    rotate_left
    · cases hj
    rename_i hjl
    have hp := hz j (by omega)
    rw [List.getD_eq_getElem?_getD, hj, Option.getD_some] at hp
    obtain ⟨Al, Ar, h0, h1, hC0, hC1⟩ := hp.at_
    have t0 := C_take hC0 _ hp.nl
    have t1 := C_take hC1 _ hp.nr
    have n0 : (z.1.f0.take z.2.1).length = z.2.1 := by rw [List.length_take]; have := hp.nl; omega
    have n1 : (z.1.f1.take z.2.2).length = z.2.2 := by rw [List.length_take]; have := hp.nr; omega
    refine ⟨[.slice Al (z.1.f0.take z.2.1).length z.1.f0.length, .slice Ar (z.1.f1.take z.2.2).length z.1.f1.length], rfl, k53_mk W ⟨z.1.f0.take z.2.1, z.1.f1.take z.2.2⟩ (by rw [n0]; exact hp.nl) (by rw [n0]; exact t0) (by rw [n1]; exact hp.nr) (by rw [n1]; exact t1), ?_⟩
    rw [n0, n1]
    intro i u hu
    match i with
    | 0 =>
      obtain rfl := Option.some.inj hu
      rw [show k53.sz = 2 from rfl, Nat.add_zero]
      exact h0
    | 1 =>
      obtain rfl := Option.some.inj hu
      rw [show k53.sz = 2 from rfl, add_field a (j * 2) 1 (by omega)]
      exact h1
    | i + 2 => cases hu
  · intro i hi
    rw [hl3] at hi
    have hp := hz i hi
    obtain ⟨Al, Ar, h0, h1, hC0, hC1⟩ := hp.at_
    rw [hget i hi]
    exact ⟨a, Al, _, Ar, _, rfl, h0, h1, hp.nl, hp.nr, hC0, hC1⟩
  · intro y hy
    obtain ⟨z, hz, rfl⟩ := List.mem_map.1 hy
    obtain ⟨b, hp⟩ := hmem z hz
    exact ⟨hp.bl, hp.br⟩
  · intro y hy
    obtain ⟨z, hz, rfl⟩ := List.mem_map.1 hy
    obtain ⟨b, hp⟩ := hmem z (List.mem_of_mem_take hz)
    have := hp.bl
    have := hp.br
    exact ⟨fun x hx => hp.il x (List.mem_of_mem_take hx), fun x hx => hp.ir x (List.mem_of_mem_take hx), by rw [List.length_take]; omega, by rw [List.length_take]; omega⟩
end Go.Proofs.Ytdbeochifofdoaa.X
end

section
/-! A list of lists of numbers that comes in: what its cells hold, up to its length and up to its capacity. -/
namespace Go.Proofs.Ytdbeochifofdoaa.X
open Go.ChangeShapes Go.WideShapes Go.RowKit Go.Proofs.YtdbeochifofdoaaW.PrintWords Go.Proofs.YtdbeochifofdoaaW.PrintLast Go.Proofs.YtdbeochifofdoaaW.PrintMore
set_option linter.unusedVariables false
set_option linter.unusedSimpArgs false

theorem o_bytes43 : Try.prog.bytesOf 43 = 24 := by kernel_rfl
/-- One list that comes in, and its length. -/
structure ListAt (W : World) (a : Addr) (z : List Int × Nat) : Prop where
  at_ : ∃ Al, W.cell? a = some (.slice Al z.2 z.1.length) ∧ Kd.C (Kd.int .i64) W Al z.1.length z.1
  nl : z.2 ≤ z.1.length
  bl : z.1.length ≤ 17592186044416
  il : ∀ x, x ∈ z.1 → (Lit.int .i64 x).wf = true
theorem open_list1 {H : Type} {enc : TypeId × Value → H} {W : World} {a : Addr} {fuel : Nat} {cs : List Value} {x : DataW H × List MemPlace} (hc : W.cells? 0 a 1 = some cs)
    (h : DataW.trod enc Try.prog W 0 (fun _ => true) true fuel 43 cs = some x) (hsz : ∀ n ∈ x.1.weights Try.prog 43, n ≤ reachBytes) : ∃ z, ListAt W a z := by
  obtain ⟨_, h2, hcell⟩ := World.cells?_some hc
  obtain ⟨A0, n0, ys0, q0, l0, b0, C0, i0⟩ := open_intsK o_underlying43 h hsz
  subst q0
  have k0 := hcell 0 (by omega)
  exact ⟨(ys0, n0), ⟨A0, by simpa [Addr.add] using k0, C0⟩, l0, b0, i0⟩
theorem open_table {H : Type} {enc : TypeId × Value → H} {W : World} {v : Value} {d : DataW H} {ps : List MemPlace} (h : DataW.Trod enc Try.prog W 0 (fun _ => true) true 47 v d ps) (hv : v.cells = #[v])
    (hsz : ∀ n ∈ d.weights Try.prog 47, n ≤ reachBytes) :
    ∃ (A : Option Addr) (l ys : List (List Int)), v = .slice A l.length ys.length ∧ l.length ≤ ys.length ∧ ys.length ≤ 5864062014805 ∧ Kd.C (Kd.slice 3 (Kd.int .i64)) W A l.length l ∧ FullT W A ys ∧ (∀ y, y ∈ ys → y.length ≤ 17592186044416) := by
  obtain ⟨fuel, hf⟩ := h
  rw [hv] at hf
  rcases DataW.trod_slice Try.underlying47 hf with ⟨hcs, _⟩ | ⟨a, len, cap, elems, rest, n, _, hcs, hx, _, hl, hm, hlen, hel, hsp, _⟩
  · obtain rfl : v = .slice none 0 0 := by simpa using hcs
    exact ⟨none, [], [], rfl, Nat.le_refl _, by simp, ⟨rfl, by simp, fun h => absurd h (by simp)⟩, fun i hi => absurd hi (by simp), fun y hy => (by cases hy)⟩
  obtain rfl : v = .slice (some a) len cap := by simpa using hcs
  obtain ⟨hrl, hre⟩ := hsp rfl
  obtain ⟨rfl, _⟩ := Prod.mk.inj hx
  simp only [DataW.weights, Try.underlying47, o_bytes43, List.mem_cons, List.mem_append] at hsz
  have hb : (len + (cap - len)) * 24 ≤ reachBytes := by
    have := hsz _ (.inl rfl)
    simpa [hlen, hrl] using this
  unfold reachBytes at hb
  rw [o_cells43] at hel hre
  have each : ∀ i, i < cap → ∃ z, ListAt W (a.add i) z := by
    intro i hi
    by_cases hil : i < len
    · have e := hel i hil
      rw [List.getElem?_eq_getElem (by omega), Nat.mul_one] at e
      obtain ⟨cs, hc, ht⟩ := Option.bind_eq_some_iff.1 e
      exact open_list1 hc ht (fun m hm => hsz m (.inr (.inl (weights_mem_all (List.mem_map.2 ⟨_, List.getElem_mem _, rfl⟩) m hm))))
    · have e := hre (i - len) (by omega)
      rw [List.getElem?_eq_getElem (by omega), show len + (i - len) = i by omega, Nat.mul_one] at e
      obtain ⟨cs, hc, ht⟩ := Option.bind_eq_some_iff.1 e
      exact open_list1 hc ht (fun m hm => hsz m (.inr (.inr (weights_mem_all (List.mem_map.2 ⟨_, List.getElem_mem _, rfl⟩) m hm))))
  obtain ⟨zs, hzl, hz⟩ := list_of (([] : List Int), 0) cap _ each
  have hget : ∀ i, i < cap → (zs.map (·.1)).getD i [] = (zs.getD i ([], 0)).1 := by
    intro i hi
    simp [List.getD_eq_getElem?_getD, List.getElem?_map, List.getElem?_eq_getElem (show i < zs.length by omega)]
  have hmem : ∀ z, z ∈ zs → ∃ b, ListAt W b z := by
    intro z h
    obtain ⟨i, hi, rfl⟩ := List.mem_iff_getElem.1 h
    have := hz i (by omega)
    rw [List.getD_eq_getElem?_getD, List.getElem?_eq_getElem hi] at this
    exact ⟨_, this⟩
  have hl2 : ((zs.take len).map fun z => z.1.take z.2).length = len := by simp; omega
  have hl3 : (zs.map (·.1)).length = cap := by simp; omega
  refine ⟨some a, (zs.take len).map fun z => z.1.take z.2, zs.map (·.1), by rw [hl2, hl3], by omega, by omega, ?_, ?_, ?_⟩
  · refine ⟨rfl, by omega, fun h0 => ⟨a, rfl, fun j p hj => ?_⟩⟩
    rw [List.getElem?_map, Option.map_eq_some_iff] at hj
    obtain ⟨z, hj, rfl⟩ := hj
    rw [List.getElem?_take] at hj
    split at hj
    rotate_left
    · cases hj
    rename_i hjl
    have hp := hz j (by omega)
    rw [List.getD_eq_getElem?_getD, hj, Option.getD_some] at hp
    obtain ⟨Al, h0, hC0⟩ := hp.at_
    have t0 := C_take hC0 _ hp.nl
    have n0 : (z.1.take z.2).length = z.2 := by rw [List.length_take]; have := hp.nl; omega
    refine ⟨[.slice Al (z.1.take z.2).length z.1.length], rfl, ⟨Al, z.1.length, rfl, by rw [n0]; exact hp.nl, by rw [n0]; exact t0⟩, ?_⟩
    rw [n0]
    intro i u hu
    match i with
    | 0 =>
      obtain rfl := Option.some.inj hu
      rw [show (Kd.slice 3 (Kd.int .i64)).sz = 1 from rfl, Nat.mul_one, Nat.add_zero]
      exact h0
    | i + 1 => cases hu
  · intro i hi
    rw [hl3] at hi
    have hp := hz i hi
    obtain ⟨Al, h0, hC0⟩ := hp.at_
    rw [hget i hi]
    exact ⟨a, Al, _, rfl, h0, hp.nl, hC0⟩
  · intro y hy
    obtain ⟨z, hz, rfl⟩ := List.mem_map.1 hy
    obtain ⟨b, hp⟩ := hmem z hz
    exact hp.bl
end Go.Proofs.Ytdbeochifofdoaa.X
end

section
-- Written by a program of this session (wip/hook.py, which runs the kit's print.py with contracts proved by hand). Not trusted: Lean checks it.
namespace Go.Proofs.Ytdbeochifofdoaa.X
open Go.RowKit Go.Proofs.YtdbeochifofdoaaW.PrintWords Go.Proofs.YtdbeochifofdoaaW.PrintLast Go.Proofs.YtdbeochifofdoaaW.PrintMore
attribute [local go_sem] max2_int min2_int max_two min_two max_three min_three max_four min_four   -- for this text's walks alone
set_option linter.unusedVariables false
set_option linter.unusedSimpArgs false

/-! ### verditerref06_times: function 79 -/
def verditerref06_times.l0 : Nat → List Int → Int → List Int → Int → Option (List Int)
  | 0, _, _, _, _ => none
  | k + 1, x0, x1, x5, x6 => if x6 < (x0.length : Int) then (if 0 ≤ x6 then (if x5.length < 17592186044416 then (verditerref06_times.l0 k x0 x1 (x5 ++ [wrap64 (x1 * (rd x0 x6))]) (wrap64 (x6 + 1))) else (none)) else (none)) else (some x5)
def verditerref06_times.f (k : Nat) (l0 : List Int) (a1 : Int) : Option (List Int) := verditerref06_times.l0 k l0 a1 ([] : List Int) 0
theorem verditerref06_times.mono_l : ∀ k, (∀ y0 y1 y2 y3, LeO (verditerref06_times.l0 k y0 y1 y2 y3) (verditerref06_times.l0 (k + 1) y0 y1 y2 y3))
  | 0 => fun _ _ _ _ r h => by simp [verditerref06_times.l0] at h
  | k + 1 => by
    have ih0 := verditerref06_times.mono_l k
    · intro y0 y1 y2 y3
      unfold verditerref06_times.l0
      repeat' first
      | (with_reducible exact ih0 _ _ _ _)
      | (with_reducible exact LeO.refl _)
      | (with_reducible exact LeO.none _)
      | (with_reducible refine LeO.ite ?_ ?_)
      | (with_reducible refine LeO.bind ?_ (fun _ => ?_))
      | exact ih0 _ _ _ _
      | exact LeO.none _
      | refine LeO.ite ?_ ?_
      | refine LeO.bind ?_ (fun _ => ?_)
theorem verditerref06_times.mono : ∀ a0 a1 k, LeO (verditerref06_times.f k a0 a1) (verditerref06_times.f (k + 1) a0 a1) := by
  intro a0 a1 k
  have ih0 := verditerref06_times.mono_l k
  unfold verditerref06_times.f
  repeat' first
      | (with_reducible exact ih0 _ _ _ _)
      | (with_reducible exact LeO.refl _)
      | (with_reducible exact LeO.none _)
      | (with_reducible refine LeO.ite ?_ ?_)
      | (with_reducible refine LeO.bind ?_ (fun _ => ?_))
      | exact ih0 _ _ _ _
      | exact LeO.none _
      | refine LeO.ite ?_ ?_
      | refine LeO.bind ?_ (fun _ => ?_)
set_option maxHeartbeats 8000000 in
set_option maxRecDepth 100000 in
theorem verditerref06_times.calls (k : Nat) (A0 : Option Addr) (c0 : Nat) (l0 : List Int) (a1 : Int) (r : List Int) (w : World) (hr0 : Kd.C (Kd.int .i64) w A0 l0.length l0) (hc0 : l0.length ≤ c0) (h : verditerref06_times.f k l0 a1 = some r) :
    Calls Try.prog 79 #[.slice A0 l0.length c0, .int .i64 a1] w fun e w' => ∃ v0_ : Value, e = .returned (v0_) ∧ Kd.R (Kd.int .i64) 3 w' w.heap.size (fun _ => True) v0_ r ∧ Below w.heap.size w w' := by
  have HR0 := Aside0.mk hr0
  have HC0 := Aside0.mk hc0
  clear hr0 hc0
  have HB := Aside0.mk (Below.refl w.heap.size w)
  have H : (verditerref06_times.l0 k l0 a1 ([] : List Int) 0) = some r := h
  clear h
  have H' := Aside0.mk H
  clear H
  go_enter Try.func79, Try.ntmps79
  go_wp2
  go_loopg [5, 6] k (fun kq v5 v6 w' => ∃ (x5_1 : List Int) (x6_1 : Int), v6 = .int .i64 x6_1 ∧ Aside0 (verditerref06_times.l0 kq l0 a1 x5_1 x6_1 = some r) ∧ Aside0 (kq ≤ k) ∧ Aside0 (Kd.R (Kd.int .i64) 3 w' w.heap.size (fun _ => True) v5 x5_1) ∧ Aside0 (Below w.heap.size w w'))
  case atStart => exact ⟨(([] : List Int)), (0), (by first | rfl | (simp; done) | (simp [*]; done)), H', ⟨Nat.le_refl _⟩, ⟨by first | exact Kd.R_nil _ _ _ _ _ | exact Kd.N_nil _ _ _ _ _ | exact Kd.V_nil _ _ _ _ _ | exact Kd.Q_nil _ _ _ _ _ | exact Kd.S_nil _ _ _ _ _⟩, ⟨by repeat (first | (with_reducible first | exact HB.out | apply below_alloc | apply pw_below_drewN | apply below_drew1) | exact HB.out)⟩⟩
  case round =>
    clear H'
    try clear p2
    obtain ⟨x5_1, x6_1, rfl, HA, HK1, HO_5, HB⟩ := hrel
    cases gk with
    | zero => exact absurd HA.out (by simp [verditerref06_times.l0])
    | succ k1 =>
      have H := HA.out
      clear HA
      simp only [verditerref06_times.l0] at H
      by_cases c3 : x6_1 < (l0.length : Int)
      · rw [if_pos c3] at H
        have c3b0 : decide (x6_1 < (l0.length : Int)) = true := decide_eq_true c3
        clear c3
        by_cases c4 : 0 ≤ x6_1
        · rw [if_pos c4] at H
          have c4b0 : decide (0 ≤ x6_1) = true := decide_eq_true c4
          clear c4
          by_cases c5 : x5_1.length < 17592186044416
          · rw [if_pos c5] at H
            have LMc5 := Aside0.mk c5
            clear c5
            obtain ⟨y197, hy197⟩ : ∃ y_ : List Int, y_ = (x5_1 ++ [wrap64 (a1 * (rd l0 x6_1))]) := ⟨_, rfl⟩
            replace H : (verditerref06_times.l0 k1 l0 a1 y197 (wrap64 (x6_1 + 1))) = some r := by first | (rw [hy197]; with_reducible exact H) | (have H2_ := (Option.bind_some _ _).symm.trans H; rw [hy197]; with_reducible exact H2_) | (have H2_ := (Option.bind_some _ _).symm.trans H; with_reducible exact H2_) | with_reducible exact H | (rw [hy197]; exact H) | exact H
            have Ny197 := Aside0.mk hy197
            clear hy197
            have H' := Aside0.mk H
            clear H
            have p196 : 0 ≤ (x6_1 : Int) := of_decide_eq_true (by first | (with_reducible assumption) | assumption)
            have q196 : x6_1 < (l0.length : Int) := of_decide_eq_true (by first | (with_reducible assumption) | assumption)
            obtain ⟨ad196, e196, hx196_0⟩ := Kd.at_int HR0.out x6_1 p196 q196
            cases e196
            replace hx196_0 := (HB.out.cell (World.block_lt_of_cell? w _ hx196_0)).trans hx196_0
            replace p196 := eq_true p196
            replace q196 := eq_true q196
            go_wp2_with (first | ((with_reducible refine gate_builtin (b := .append) (xs := #[.tmp 13, .tmp 20]) rfl ?_); at_builtin; refine Kd.R_append (Kd.int .i64) (w0 := w) w.heap.size rfl (.tmp 13) (.tmp 20) 43 3 (.int .i64 0) 8 rfl Try.underlying43 info3 rfl (by decide) (by omega) u5 x5_1 (wrap64 (a1 * (rd l0 x6_1))) [.int .i64 (wrap64 (a1 * (rd l0 x6_1)))] (fun _ => True) (fun _ => False) rfl rfl ?aP (fun _ hk => hk.elim) ?aF ?aO ?aB ?aS ?aL ?_; (case aP => exact rfl); (case aB => exact (by repeat (first | (with_reducible first | exact HB.out | apply below_alloc | apply pw_below_drewN | apply below_drew1) | exact HB.out))); (case aF => exact (fun _ _ => trivial)); (case aO => exact (by (with_reducible repeat (first | apply Kd.R_alloc | apply Kd.R_drewN | apply Kd.R_drew)); exact HO_5.out)); (case aS => exact (below_size (by repeat (first | (with_reducible first | exact HB.out | apply below_alloc | apply pw_below_drewN | apply below_drew1) | exact HB.out)))); (case aL => have := LMc5.out; omega); intro v198 w6 ho hb hg hat; rw [← Ny197.out] at ho; have n0_ := Aside0.mk (hb); have n1_ := Aside0.mk (ho); clear HB; clear HO_5; have HB := n0_; have HO199 := n1_; clear n0_ n1_; clear ho hb hg hat))
            go_roundg k1
            case measure => have := HK1.out; omega
            case rel => exact ⟨(y197), (wrap64 (x6_1 + 1)), (by first | rfl | (simp; done) | (simp [*]; done)), H', ⟨by have := HK1.out; omega⟩, ⟨by (with_reducible repeat (first | apply Kd.R_alloc | apply Kd.R_drewN | apply Kd.R_drew)); exact HO199.out⟩, ⟨by repeat (first | (with_reducible first | exact HB.out | apply below_alloc | apply pw_below_drewN | apply below_drew1) | exact HB.out)⟩⟩
          · rw [if_neg c5] at H
            exact absurd H (by simp)
        · rw [if_neg c4] at H
          exact absurd H (by simp)
      · rw [if_neg c3] at H
        have c3b0 : decide (x6_1 < (l0.length : Int)) = false := decide_eq_false c3
        clear c3
        obtain rfl := Option.some.inj H
        go_wp2
        go_ret
        exact ⟨_, by first | rfl | (simp [errW_none, errW_some] <;> rfl) | (simp [*, errW_none, errW_some] <;> rfl), by (with_reducible repeat (first | apply Kd.R_alloc | apply Kd.R_drewN | apply Kd.R_drew)); exact HO_5.out, by repeat (first | (with_reducible first | exact HB.out | apply below_alloc | apply pw_below_drewN | apply below_drew1) | exact HB.out)⟩

end Go.Proofs.Ytdbeochifofdoaa.X
end

section
-- Written by a program of this session (wip/hook.py, which runs the kit's print.py with contracts proved by hand). Not trusted: Lean checks it.
namespace Go.Proofs.Ytdbeochifofdoaa.X
open Go.RowKit Go.Proofs.YtdbeochifofdoaaW.PrintWords Go.Proofs.YtdbeochifofdoaaW.PrintLast Go.Proofs.YtdbeochifofdoaaW.PrintMore
attribute [local go_sem] max2_int min2_int max_two min_two max_three min_three max_four min_four   -- for this text's walks alone
set_option linter.unusedVariables false
set_option linter.unusedSimpArgs false

/-! ### verditerref06_has: function 101 -/
def verditerref06_has.l0 : Nat → List Int → Int → Int → Option (Bool)
  | 0, _, _, _ => none
  | k + 1, x0, x1, x5 => if x5 < (x0.length : Int) then (if 0 ≤ x5 then (if (rd x0 x5) = x1 then (some true) else (verditerref06_has.l0 k x0 x1 (wrap64 (x5 + 1)))) else (none)) else (some false)
def verditerref06_has.f (k : Nat) (l0 : List Int) (a1 : Int) : Option (Bool) := verditerref06_has.l0 k l0 a1 0
theorem verditerref06_has.mono_l : ∀ k, (∀ y0 y1 y2, LeO (verditerref06_has.l0 k y0 y1 y2) (verditerref06_has.l0 (k + 1) y0 y1 y2))
  | 0 => fun _ _ _ r h => by simp [verditerref06_has.l0] at h
  | k + 1 => by
    have ih0 := verditerref06_has.mono_l k
    · intro y0 y1 y2
      unfold verditerref06_has.l0
      repeat' first
      | (with_reducible exact ih0 _ _ _)
      | (with_reducible exact LeO.refl _)
      | (with_reducible exact LeO.none _)
      | (with_reducible refine LeO.ite ?_ ?_)
      | (with_reducible refine LeO.bind ?_ (fun _ => ?_))
      | exact ih0 _ _ _
      | exact LeO.none _
      | refine LeO.ite ?_ ?_
      | refine LeO.bind ?_ (fun _ => ?_)
theorem verditerref06_has.mono : ∀ a0 a1 k, LeO (verditerref06_has.f k a0 a1) (verditerref06_has.f (k + 1) a0 a1) := by
  intro a0 a1 k
  have ih0 := verditerref06_has.mono_l k
  unfold verditerref06_has.f
  repeat' first
      | (with_reducible exact ih0 _ _ _)
      | (with_reducible exact LeO.refl _)
      | (with_reducible exact LeO.none _)
      | (with_reducible refine LeO.ite ?_ ?_)
      | (with_reducible refine LeO.bind ?_ (fun _ => ?_))
      | exact ih0 _ _ _
      | exact LeO.none _
      | refine LeO.ite ?_ ?_
      | refine LeO.bind ?_ (fun _ => ?_)
set_option maxHeartbeats 8000000 in
set_option maxRecDepth 100000 in
theorem verditerref06_has.calls (k : Nat) (A0 : Option Addr) (c0 : Nat) (l0 : List Int) (a1 : Int) (r : Bool) (w : World) (hr0 : Kd.C (Kd.int .i64) w A0 l0.length l0) (hc0 : l0.length ≤ c0) (h : verditerref06_has.f k l0 a1 = some r) :
    Calls Try.prog 101 #[.slice A0 l0.length c0, .int .i64 a1] w fun e w' => e = .returned (.bool r) ∧ Drawn0 w w' := by
  have HR0 := Aside0.mk hr0
  have HC0 := Aside0.mk hc0
  clear hr0 hc0
  have H : (verditerref06_has.l0 k l0 a1 0) = some r := h
  clear h
  have H' := Aside0.mk H
  clear H
  go_enter Try.func101, Try.ntmps101
  go_wp2
  go_loopg [5] k (fun kq v5 w' => ∃ (x5_1 : Int), v5 = .int .i64 x5_1 ∧ Aside0 (verditerref06_has.l0 kq l0 a1 x5_1 = some r) ∧ Aside0 (kq ≤ k) ∧ Drawn0 w w')
  case atStart => exact ⟨(0), (by first | rfl | (simp; done) | (simp [*]; done)), H', ⟨Nat.le_refl _⟩, by repeat (first | exact Drawn0.refl _ | apply Drawn0.step)⟩
  case round =>
    clear H'
    try clear c1
    try clear p2
    obtain ⟨x5_1, rfl, HA, HK1, ⟨m1, rfl⟩⟩ := hrel
    cases gk with
    | zero => exact absurd HA.out (by simp [verditerref06_has.l0])
    | succ k1 =>
      have H := HA.out
      clear HA
      simp only [verditerref06_has.l0] at H
      by_cases c3 : x5_1 < (l0.length : Int)
      · rw [if_pos c3] at H
        have c3b0 : decide (x5_1 < (l0.length : Int)) = true := decide_eq_true c3
        clear c3
        by_cases c4 : 0 ≤ x5_1
        · rw [if_pos c4] at H
          have c4b0 : decide (0 ≤ x5_1) = true := decide_eq_true c4
          clear c4
          by_cases c5 : (rd l0 x5_1) = a1
          · rw [if_pos c5] at H
            have c5b0 : ((rd l0 x5_1) == a1) = true := beq_iff_eq.mpr c5
            have c5b1 : ((rd l0 x5_1) != a1) = false := bne_eq_false_iff_eq.mpr c5
            clear c5
            obtain rfl := Option.some.inj H
            have p183 : 0 ≤ (x5_1 : Int) := of_decide_eq_true (by first | (with_reducible assumption) | assumption)
            have q183 : x5_1 < (l0.length : Int) := of_decide_eq_true (by first | (with_reducible assumption) | assumption)
            obtain ⟨ad183, e183, hx183_0⟩ := Kd.at_int HR0.out x5_1 p183 q183
            cases e183
            replace p183 := eq_true p183
            replace q183 := eq_true q183
            go_wp2
            go_ret
            exact ⟨by first | rfl | (simp; done) | (simp [*]; done), by repeat (first | exact Drawn0.refl _ | apply Drawn0.step)⟩
          · rw [if_neg c5] at H
            have c5b0 : ((rd l0 x5_1) == a1) = false := beq_eq_false_iff_ne.mpr c5
            have c5b1 : ((rd l0 x5_1) != a1) = true := bne_iff_ne.mpr c5
            have H' := Aside0.mk H
            clear H
            have p183 : 0 ≤ (x5_1 : Int) := of_decide_eq_true (by first | (with_reducible assumption) | assumption)
            have q183 : x5_1 < (l0.length : Int) := of_decide_eq_true (by first | (with_reducible assumption) | assumption)
            obtain ⟨ad183, e183, hx183_0⟩ := Kd.at_int HR0.out x5_1 p183 q183
            cases e183
            replace p183 := eq_true p183
            replace q183 := eq_true q183
            go_wp2
            go_roundg k1
            case measure => have := HK1.out; omega
            case rel => exact ⟨(wrap64 (x5_1 + 1)), (by first | rfl | (simp; done) | (simp [*]; done)), H', ⟨by have := HK1.out; omega⟩, by repeat (first | exact Drawn0.refl _ | apply Drawn0.step)⟩
        · rw [if_neg c4] at H
          exact absurd H (by simp)
      · rw [if_neg c3] at H
        have c3b0 : decide (x5_1 < (l0.length : Int)) = false := decide_eq_false c3
        clear c3
        obtain rfl := Option.some.inj H
        go_wp2
        go_ret
        exact ⟨by first | rfl | (simp; done) | (simp [*]; done), by repeat (first | exact Drawn0.refl _ | apply Drawn0.step)⟩

end Go.Proofs.Ytdbeochifofdoaa.X
end

section
-- Written by a program of this session (wip/hook.py, which runs the kit's print.py with contracts proved by hand). Not trusted: Lean checks it.
namespace Go.Proofs.Ytdbeochifofdoaa.X
open Go.RowKit Go.Proofs.YtdbeochifofdoaaW.PrintWords Go.Proofs.YtdbeochifofdoaaW.PrintLast Go.Proofs.YtdbeochifofdoaaW.PrintMore
attribute [local go_sem] max2_int min2_int max_two min_two max_three min_three max_four min_four   -- for this text's walks alone
set_option linter.unusedVariables false
set_option linter.unusedSimpArgs false

/-! ### verditerref06_mark: function 80 -/
def verditerref06_mark.l0 : Nat → List (S53) → Int → List Int → Int → Option (List Int)
  | 0, _, _, _, _ => none
  | k + 1, x0, x1, x5, x6 => if x6 < (x0.length : Int) then (if 0 ≤ x6 then ((verditerref06_has.f k ((rd_T53 x0 x6).f0) x1).bind fun t201 => (if t201 = true then ((verditerref06_has.f k ((rd_T53 x0 x6).f1) x1).bind fun t203 => (if t203 = true then (if x5.length < 17592186044416 then (verditerref06_mark.l0 k x0 x1 (x5 ++ [(-1)]) (wrap64 (x6 + 1))) else (none)) else (if x5.length < 17592186044416 then (verditerref06_mark.l0 k x0 x1 (x5 ++ [1]) (wrap64 (x6 + 1))) else (none)))) else ((verditerref06_has.f k ((rd_T53 x0 x6).f1) x1).bind fun t211 => (if t211 = true then (if x5.length < 17592186044416 then (verditerref06_mark.l0 k x0 x1 (x5 ++ [(-1)]) (wrap64 (x6 + 1))) else (none)) else (if x5.length < 17592186044416 then (verditerref06_mark.l0 k x0 x1 (x5 ++ [0]) (wrap64 (x6 + 1))) else (none)))))) else (none)) else (some x5)
def verditerref06_mark.f (k : Nat) (l0 : List (S53)) (a1 : Int) : Option (List Int) := verditerref06_mark.l0 k l0 a1 ([] : List Int) 0
theorem verditerref06_mark.mono_l : ∀ k, (∀ y0 y1 y2 y3, LeO (verditerref06_mark.l0 k y0 y1 y2 y3) (verditerref06_mark.l0 (k + 1) y0 y1 y2 y3))
  | 0 => fun _ _ _ _ r h => by simp [verditerref06_mark.l0] at h
  | k + 1 => by
    have ih0 := verditerref06_mark.mono_l k
    · intro y0 y1 y2 y3
      unfold verditerref06_mark.l0
      repeat' first
      | (with_reducible exact ih0 _ _ _ _)
      | (with_reducible exact verditerref06_has.mono _ _ _)
      | (with_reducible exact LeO.refl _)
      | (with_reducible exact LeO.none _)
      | (with_reducible refine LeO.ite ?_ ?_)
      | (with_reducible refine LeO.bind ?_ (fun _ => ?_))
      | exact ih0 _ _ _ _
      | exact verditerref06_has.mono _ _ _
      | exact LeO.none _
      | refine LeO.ite ?_ ?_
      | refine LeO.bind ?_ (fun _ => ?_)
theorem verditerref06_mark.mono : ∀ a0 a1 k, LeO (verditerref06_mark.f k a0 a1) (verditerref06_mark.f (k + 1) a0 a1) := by
  intro a0 a1 k
  have ih0 := verditerref06_mark.mono_l k
  unfold verditerref06_mark.f
  repeat' first
      | (with_reducible exact ih0 _ _ _ _)
      | (with_reducible exact verditerref06_has.mono _ _ _)
      | (with_reducible exact LeO.refl _)
      | (with_reducible exact LeO.none _)
      | (with_reducible refine LeO.ite ?_ ?_)
      | (with_reducible refine LeO.bind ?_ (fun _ => ?_))
      | exact ih0 _ _ _ _
      | exact verditerref06_has.mono _ _ _
      | exact LeO.none _
      | refine LeO.ite ?_ ?_
      | refine LeO.bind ?_ (fun _ => ?_)
set_option maxHeartbeats 8000000 in
set_option maxRecDepth 100000 in
theorem verditerref06_mark.calls (k : Nat) (A0 : Option Addr) (c0 : Nat) (l0 : List (S53)) (a1 : Int) (r : List Int) (w : World) (hr0 : Kd.C k53 w A0 l0.length l0) (hc0 : l0.length ≤ c0) (h : verditerref06_mark.f k l0 a1 = some r) :
    Calls Try.prog 80 #[.slice A0 l0.length c0, .int .i64 a1] w fun e w' => ∃ v0_ : Value, e = .returned (v0_) ∧ Kd.R (Kd.int .i64) 3 w' w.heap.size (fun _ => True) v0_ r ∧ Below w.heap.size w w' := by
  have HR0 := Aside0.mk hr0
  have HC0 := Aside0.mk hc0
  clear hr0 hc0
  have HB := Aside0.mk (Below.refl w.heap.size w)
  have H : (verditerref06_mark.l0 k l0 a1 ([] : List Int) 0) = some r := h
  clear h
  have H' := Aside0.mk H
  clear H
  go_enter Try.func80, Try.ntmps80
  go_wp2
  go_loopg [5, 6] k (fun kq v5 v6 w' => ∃ (x5_1 : List Int) (x6_1 : Int), v6 = .int .i64 x6_1 ∧ Aside0 (verditerref06_mark.l0 kq l0 a1 x5_1 x6_1 = some r) ∧ Aside0 (kq ≤ k) ∧ Aside0 (Kd.R (Kd.int .i64) 3 w' w.heap.size (fun _ => True) v5 x5_1) ∧ Aside0 (Below w.heap.size w w'))
  case atStart => exact ⟨(([] : List Int)), (0), (by first | rfl | (simp; done) | (simp [*]; done)), H', ⟨Nat.le_refl _⟩, ⟨by first | exact Kd.R_nil _ _ _ _ _ | exact Kd.N_nil _ _ _ _ _ | exact Kd.V_nil _ _ _ _ _ | exact Kd.Q_nil _ _ _ _ _ | exact Kd.S_nil _ _ _ _ _⟩, ⟨by repeat (first | (with_reducible first | exact HB.out | apply below_alloc | apply pw_below_drewN | apply below_drew1) | exact HB.out)⟩⟩
  case round =>
    clear H'
    try clear p2
    obtain ⟨x5_1, x6_1, rfl, HA, HK1, HO_5, HB⟩ := hrel
    cases gk with
    | zero => exact absurd HA.out (by simp [verditerref06_mark.l0])
    | succ k1 =>
      have H := HA.out
      clear HA
      simp only [verditerref06_mark.l0] at H
      by_cases c3 : x6_1 < (l0.length : Int)
      · rw [if_pos c3] at H
        have c3b0 : decide (x6_1 < (l0.length : Int)) = true := decide_eq_true c3
        clear c3
        by_cases c4 : 0 ≤ x6_1
        · rw [if_pos c4] at H
          have c4b0 : decide (0 ≤ x6_1) = true := decide_eq_true c4
          clear c4
          replace H := Option.bind_eq_some_iff.mp H
          obtain ⟨t201, A50, H⟩ := H
          replace H : (if t201 = true then ((verditerref06_has.f k1 ((rd_T53 l0 x6_1).f1) a1).bind fun t203 => (if t203 = true then (if x5_1.length < 17592186044416 then (verditerref06_mark.l0 k1 l0 a1 (x5_1 ++ [(-1)]) (wrap64 (x6_1 + 1))) else (none)) else (if x5_1.length < 17592186044416 then (verditerref06_mark.l0 k1 l0 a1 (x5_1 ++ [1]) (wrap64 (x6_1 + 1))) else (none)))) else ((verditerref06_has.f k1 ((rd_T53 l0 x6_1).f1) a1).bind fun t211 => (if t211 = true then (if x5_1.length < 17592186044416 then (verditerref06_mark.l0 k1 l0 a1 (x5_1 ++ [(-1)]) (wrap64 (x6_1 + 1))) else (none)) else (if x5_1.length < 17592186044416 then (verditerref06_mark.l0 k1 l0 a1 (x5_1 ++ [0]) (wrap64 (x6_1 + 1))) else (none))))) = some r := H
          have A5 := Aside0.mk A50
          clear A50
          by_cases c6 : t201 = true
          · subst c6
            have H1 : ((verditerref06_has.f k1 ((rd_T53 l0 x6_1).f1) a1).bind fun t203 => (if t203 = true then (if x5_1.length < 17592186044416 then (verditerref06_mark.l0 k1 l0 a1 (x5_1 ++ [(-1)]) (wrap64 (x6_1 + 1))) else (none)) else (if x5_1.length < 17592186044416 then (verditerref06_mark.l0 k1 l0 a1 (x5_1 ++ [1]) (wrap64 (x6_1 + 1))) else (none)))) = some r := by rw [if_pos rfl] at H; exact H
            clear H
            have H := H1
            clear H1
            replace H := Option.bind_eq_some_iff.mp H
            obtain ⟨t203, A70, H⟩ := H
            replace H : (if t203 = true then (if x5_1.length < 17592186044416 then (verditerref06_mark.l0 k1 l0 a1 (x5_1 ++ [(-1)]) (wrap64 (x6_1 + 1))) else (none)) else (if x5_1.length < 17592186044416 then (verditerref06_mark.l0 k1 l0 a1 (x5_1 ++ [1]) (wrap64 (x6_1 + 1))) else (none))) = some r := H
            have A7 := Aside0.mk A70
            clear A70
            by_cases c8 : t203 = true
            · subst c8
              have H1 : (if x5_1.length < 17592186044416 then (verditerref06_mark.l0 k1 l0 a1 (x5_1 ++ [(-1)]) (wrap64 (x6_1 + 1))) else (none)) = some r := by rw [if_pos rfl] at H; exact H
              clear H
              have H := H1
              clear H1
              by_cases c9 : x5_1.length < 17592186044416
              · rw [if_pos c9] at H
                have LMc9 := Aside0.mk c9
                clear c9
                obtain ⟨y204, hy204⟩ : ∃ y_ : List Int, y_ = (x5_1 ++ [(-1)]) := ⟨_, rfl⟩
                replace H : (verditerref06_mark.l0 k1 l0 a1 y204 (wrap64 (x6_1 + 1))) = some r := by first | (rw [hy204]; with_reducible exact H) | (have H2_ := (Option.bind_some _ _).symm.trans H; rw [hy204]; with_reducible exact H2_) | (have H2_ := (Option.bind_some _ _).symm.trans H; with_reducible exact H2_) | with_reducible exact H | (rw [hy204]; exact H) | exact H
                have Ny204 := Aside0.mk hy204
                clear hy204
                have H' := Aside0.mk H
                clear H
                have p200 : 0 ≤ (x6_1 : Int) := of_decide_eq_true (by first | (with_reducible assumption) | assumption)
                have q200 : x6_1 < (l0.length : Int) := of_decide_eq_true (by first | (with_reducible assumption) | assumption)
                obtain ⟨ad200, A200_0, c200_0, A200_1, c200_1, e200, hx200_0, hx200_1, hl200_0, hi200_0, hl200_1, hi200_1⟩ := at_T53 HR0.out x6_1 p200 q200
                cases e200
                replace hx200_0 := (HB.out.cell (World.block_lt_of_cell? w _ hx200_0)).trans hx200_0
                replace hx200_1 := (HB.out.cell (World.block_lt_of_cell? w _ hx200_1)).trans hx200_1
                have HR200_0 := Aside0.mk hi200_0
                have HC200_0 := Aside0.mk hl200_0
                clear hi200_0 hl200_0
                have HR200_1 := Aside0.mk hi200_1
                have HC200_1 := Aside0.mk hl200_1
                clear hi200_1 hl200_1
                replace p200 := eq_true p200
                replace q200 := eq_true q200
                go_wp2_with (first | ((with_reducible refine gate_callee (f := 101) rfl ?_); refine goesL_ (some 20) rfl rfl Try.func101 (by kernel_rfl) rfl #[.slice A200_0 ((rd_T53 l0 x6_1).f0).length c200_0, .int .i64 a1] rfl (by (try simp only [List.map_toArray, List.map_cons, List.map_nil]); first | done | rfl | (simp only [List.length_drop, List.length_take]; rfl)) ?_; (with_reducible refine (verditerref06_has.calls k1 _ _ ((rd_T53 l0 x6_1).f0) a1 true _ ?side1 ?side2 A5.out).mono ?_); (case side1 => repeat (first | exact (Kd.C_below HR200_0.out HB.out) | (with_reducible refine Kd.C_alloc ?_ _) | (with_reducible refine Kd.C_drewN ?_ _) | (with_reducible refine Kd.C_drew ?_))); (case side2 => exact HC200_0.out); rintro e w' ⟨rfl, ⟨nd, rfl⟩⟩; refine ⟨_, rfl, ?_⟩; have p202 : 0 ≤ (x6_1 : Int) := of_decide_eq_true (by first | (with_reducible assumption) | assumption); have q202 : x6_1 < (l0.length : Int) := of_decide_eq_true (by first | (with_reducible assumption) | assumption); obtain ⟨ad202, A202_0, c202_0, A202_1, c202_1, e202, hx202_0, hx202_1, hl202_0, hi202_0, hl202_1, hi202_1⟩ := at_T53 HR0.out x6_1 p202 q202; obtain rfl : ad200 = ad202 := (by injection e202); replace hx202_0 := (HB.out.cell (World.block_lt_of_cell? w _ hx202_0)).trans hx202_0; replace hx202_1 := (HB.out.cell (World.block_lt_of_cell? w _ hx202_1)).trans hx202_1; have HR202_0 := Aside0.mk hi202_0; have HC202_0 := Aside0.mk hl202_0; clear hi202_0 hl202_0; have HR202_1 := Aside0.mk hi202_1; have HC202_1 := Aside0.mk hl202_1; clear hi202_1 hl202_1; replace p202 := eq_true p202; replace q202 := eq_true q202; have ea_ := Option.some.inj (hx200_0.symm.trans hx202_0); injection ea_ with ea_ en_ ec_; subst ea_; subst ec_; clear en_; have ea_ := Option.some.inj (hx200_1.symm.trans hx202_1); injection ea_ with ea_ en_ ec_; subst ea_; subst ec_; clear en_) | ((with_reducible refine gate_callee (f := 101) rfl ?_); refine goesL_ (some 27) rfl rfl Try.func101 (by kernel_rfl) rfl #[.slice A200_1 ((rd_T53 l0 x6_1).f1).length c200_1, .int .i64 a1] rfl (by (try simp only [List.map_toArray, List.map_cons, List.map_nil]); first | done | rfl | (simp only [List.length_drop, List.length_take]; rfl)) ?_; (with_reducible refine (verditerref06_has.calls k1 _ _ ((rd_T53 l0 x6_1).f1) a1 true _ ?side1 ?side2 A7.out).mono ?_); (case side1 => repeat (first | exact (Kd.C_below HR202_1.out (by repeat (first | (with_reducible first | exact HB.out | apply below_alloc | apply pw_below_drewN | apply below_drew1) | exact HB.out))) | (with_reducible refine Kd.C_alloc ?_ _) | (with_reducible refine Kd.C_drewN ?_ _) | (with_reducible refine Kd.C_drew ?_))); (case side2 => exact HC202_1.out); rintro e w' ⟨rfl, ⟨nd, rfl⟩⟩; refine ⟨_, rfl, ?_⟩) | ((with_reducible refine gate_builtin (b := .append) (xs := #[.tmp 28, .tmp 30]) rfl ?_); at_builtin; refine Kd.R_append (Kd.int .i64) (w0 := w) w.heap.size rfl (.tmp 28) (.tmp 30) 43 3 (.int .i64 0) 8 rfl Try.underlying43 info3 rfl (by decide) (by omega) u5 x5_1 (-1) [.int .i64 (-1)] (fun _ => True) (fun _ => False) rfl rfl ?aP (fun _ hk => hk.elim) ?aF ?aO ?aB ?aS ?aL ?_; (case aP => exact rfl); (case aB => exact (by repeat (first | (with_reducible first | exact HB.out | apply below_alloc | apply pw_below_drewN | apply below_drew1) | exact HB.out))); (case aF => exact (fun _ _ => trivial)); (case aO => exact (by (with_reducible repeat (first | apply Kd.R_alloc | apply Kd.R_drewN | apply Kd.R_drew)); exact HO_5.out)); (case aS => exact (below_size (by repeat (first | (with_reducible first | exact HB.out | apply below_alloc | apply pw_below_drewN | apply below_drew1) | exact HB.out)))); (case aL => have := LMc9.out; omega); intro v205 w10 ho hb hg hat; rw [← Ny204.out] at ho; have n0_ := Aside0.mk (hb); have n1_ := Aside0.mk (ho); clear HB; clear HO_5; have HB := n0_; have HO206 := n1_; clear n0_ n1_; clear ho hb hg hat))
                go_roundg k1
                case measure => have := HK1.out; omega
                case rel => exact ⟨(y204), (wrap64 (x6_1 + 1)), (by first | rfl | (simp; done) | (simp [*]; done)), H', ⟨by have := HK1.out; omega⟩, ⟨by (with_reducible repeat (first | apply Kd.R_alloc | apply Kd.R_drewN | apply Kd.R_drew)); exact HO206.out⟩, ⟨by repeat (first | (with_reducible first | exact HB.out | apply below_alloc | apply pw_below_drewN | apply below_drew1) | exact HB.out)⟩⟩
              · rw [if_neg c9] at H
                exact absurd H (by simp)
            · replace c8 := Bool.eq_false_iff.mpr c8
              subst c8
              have H1 : (if x5_1.length < 17592186044416 then (verditerref06_mark.l0 k1 l0 a1 (x5_1 ++ [1]) (wrap64 (x6_1 + 1))) else (none)) = some r := by rw [if_neg (show ¬ (false = true) by decide)] at H; exact H
              clear H
              have H := H1
              clear H1
              by_cases c11 : x5_1.length < 17592186044416
              · rw [if_pos c11] at H
                have LMc11 := Aside0.mk c11
                clear c11
                obtain ⟨y207, hy207⟩ : ∃ y_ : List Int, y_ = (x5_1 ++ [1]) := ⟨_, rfl⟩
                replace H : (verditerref06_mark.l0 k1 l0 a1 y207 (wrap64 (x6_1 + 1))) = some r := by first | (rw [hy207]; with_reducible exact H) | (have H2_ := (Option.bind_some _ _).symm.trans H; rw [hy207]; with_reducible exact H2_) | (have H2_ := (Option.bind_some _ _).symm.trans H; with_reducible exact H2_) | with_reducible exact H | (rw [hy207]; exact H) | exact H
                have Ny207 := Aside0.mk hy207
                clear hy207
                have H' := Aside0.mk H
                clear H
                have p200 : 0 ≤ (x6_1 : Int) := of_decide_eq_true (by first | (with_reducible assumption) | assumption)
                have q200 : x6_1 < (l0.length : Int) := of_decide_eq_true (by first | (with_reducible assumption) | assumption)
                obtain ⟨ad200, A200_0, c200_0, A200_1, c200_1, e200, hx200_0, hx200_1, hl200_0, hi200_0, hl200_1, hi200_1⟩ := at_T53 HR0.out x6_1 p200 q200
                cases e200
                replace hx200_0 := (HB.out.cell (World.block_lt_of_cell? w _ hx200_0)).trans hx200_0
                replace hx200_1 := (HB.out.cell (World.block_lt_of_cell? w _ hx200_1)).trans hx200_1
                have HR200_0 := Aside0.mk hi200_0
                have HC200_0 := Aside0.mk hl200_0
                clear hi200_0 hl200_0
                have HR200_1 := Aside0.mk hi200_1
                have HC200_1 := Aside0.mk hl200_1
                clear hi200_1 hl200_1
                replace p200 := eq_true p200
                replace q200 := eq_true q200
                go_wp2_with (first | ((with_reducible refine gate_callee (f := 101) rfl ?_); refine goesL_ (some 20) rfl rfl Try.func101 (by kernel_rfl) rfl #[.slice A200_0 ((rd_T53 l0 x6_1).f0).length c200_0, .int .i64 a1] rfl (by (try simp only [List.map_toArray, List.map_cons, List.map_nil]); first | done | rfl | (simp only [List.length_drop, List.length_take]; rfl)) ?_; (with_reducible refine (verditerref06_has.calls k1 _ _ ((rd_T53 l0 x6_1).f0) a1 true _ ?side1 ?side2 A5.out).mono ?_); (case side1 => repeat (first | exact (Kd.C_below HR200_0.out HB.out) | (with_reducible refine Kd.C_alloc ?_ _) | (with_reducible refine Kd.C_drewN ?_ _) | (with_reducible refine Kd.C_drew ?_))); (case side2 => exact HC200_0.out); rintro e w' ⟨rfl, ⟨nd, rfl⟩⟩; refine ⟨_, rfl, ?_⟩; have p202 : 0 ≤ (x6_1 : Int) := of_decide_eq_true (by first | (with_reducible assumption) | assumption); have q202 : x6_1 < (l0.length : Int) := of_decide_eq_true (by first | (with_reducible assumption) | assumption); obtain ⟨ad202, A202_0, c202_0, A202_1, c202_1, e202, hx202_0, hx202_1, hl202_0, hi202_0, hl202_1, hi202_1⟩ := at_T53 HR0.out x6_1 p202 q202; obtain rfl : ad200 = ad202 := (by injection e202); replace hx202_0 := (HB.out.cell (World.block_lt_of_cell? w _ hx202_0)).trans hx202_0; replace hx202_1 := (HB.out.cell (World.block_lt_of_cell? w _ hx202_1)).trans hx202_1; have HR202_0 := Aside0.mk hi202_0; have HC202_0 := Aside0.mk hl202_0; clear hi202_0 hl202_0; have HR202_1 := Aside0.mk hi202_1; have HC202_1 := Aside0.mk hl202_1; clear hi202_1 hl202_1; replace p202 := eq_true p202; replace q202 := eq_true q202; have ea_ := Option.some.inj (hx200_0.symm.trans hx202_0); injection ea_ with ea_ en_ ec_; subst ea_; subst ec_; clear en_; have ea_ := Option.some.inj (hx200_1.symm.trans hx202_1); injection ea_ with ea_ en_ ec_; subst ea_; subst ec_; clear en_) | ((with_reducible refine gate_callee (f := 101) rfl ?_); refine goesL_ (some 27) rfl rfl Try.func101 (by kernel_rfl) rfl #[.slice A200_1 ((rd_T53 l0 x6_1).f1).length c200_1, .int .i64 a1] rfl (by (try simp only [List.map_toArray, List.map_cons, List.map_nil]); first | done | rfl | (simp only [List.length_drop, List.length_take]; rfl)) ?_; (with_reducible refine (verditerref06_has.calls k1 _ _ ((rd_T53 l0 x6_1).f1) a1 false _ ?side1 ?side2 A7.out).mono ?_); (case side1 => repeat (first | exact (Kd.C_below HR202_1.out (by repeat (first | (with_reducible first | exact HB.out | apply below_alloc | apply pw_below_drewN | apply below_drew1) | exact HB.out))) | (with_reducible refine Kd.C_alloc ?_ _) | (with_reducible refine Kd.C_drewN ?_ _) | (with_reducible refine Kd.C_drew ?_))); (case side2 => exact HC202_1.out); rintro e w' ⟨rfl, ⟨nd, rfl⟩⟩; refine ⟨_, rfl, ?_⟩) | ((with_reducible refine gate_builtin (b := .append) (xs := #[.tmp 28, .tmp 30]) rfl ?_); at_builtin; refine Kd.R_append (Kd.int .i64) (w0 := w) w.heap.size rfl (.tmp 28) (.tmp 30) 43 3 (.int .i64 0) 8 rfl Try.underlying43 info3 rfl (by decide) (by omega) u5 x5_1 1 [.int .i64 1] (fun _ => True) (fun _ => False) rfl rfl ?aP (fun _ hk => hk.elim) ?aF ?aO ?aB ?aS ?aL ?_; (case aP => exact rfl); (case aB => exact (by repeat (first | (with_reducible first | exact HB.out | apply below_alloc | apply pw_below_drewN | apply below_drew1) | exact HB.out))); (case aF => exact (fun _ _ => trivial)); (case aO => exact (by (with_reducible repeat (first | apply Kd.R_alloc | apply Kd.R_drewN | apply Kd.R_drew)); exact HO_5.out)); (case aS => exact (below_size (by repeat (first | (with_reducible first | exact HB.out | apply below_alloc | apply pw_below_drewN | apply below_drew1) | exact HB.out)))); (case aL => have := LMc11.out; omega); intro v208 w12 ho hb hg hat; rw [← Ny207.out] at ho; have n0_ := Aside0.mk (hb); have n1_ := Aside0.mk (ho); clear HB; clear HO_5; have HB := n0_; have HO209 := n1_; clear n0_ n1_; clear ho hb hg hat))
                go_roundg k1
                case measure => have := HK1.out; omega
                case rel => exact ⟨(y207), (wrap64 (x6_1 + 1)), (by first | rfl | (simp; done) | (simp [*]; done)), H', ⟨by have := HK1.out; omega⟩, ⟨by (with_reducible repeat (first | apply Kd.R_alloc | apply Kd.R_drewN | apply Kd.R_drew)); exact HO209.out⟩, ⟨by repeat (first | (with_reducible first | exact HB.out | apply below_alloc | apply pw_below_drewN | apply below_drew1) | exact HB.out)⟩⟩
              · rw [if_neg c11] at H
                exact absurd H (by simp)
          · replace c6 := Bool.eq_false_iff.mpr c6
            subst c6
            have H1 : ((verditerref06_has.f k1 ((rd_T53 l0 x6_1).f1) a1).bind fun t211 => (if t211 = true then (if x5_1.length < 17592186044416 then (verditerref06_mark.l0 k1 l0 a1 (x5_1 ++ [(-1)]) (wrap64 (x6_1 + 1))) else (none)) else (if x5_1.length < 17592186044416 then (verditerref06_mark.l0 k1 l0 a1 (x5_1 ++ [0]) (wrap64 (x6_1 + 1))) else (none)))) = some r := by rw [if_neg (show ¬ (false = true) by decide)] at H; exact H
            clear H
            have H := H1
            clear H1
            replace H := Option.bind_eq_some_iff.mp H
            obtain ⟨t211, A130, H⟩ := H
            replace H : (if t211 = true then (if x5_1.length < 17592186044416 then (verditerref06_mark.l0 k1 l0 a1 (x5_1 ++ [(-1)]) (wrap64 (x6_1 + 1))) else (none)) else (if x5_1.length < 17592186044416 then (verditerref06_mark.l0 k1 l0 a1 (x5_1 ++ [0]) (wrap64 (x6_1 + 1))) else (none))) = some r := H
            have A13 := Aside0.mk A130
            clear A130
            by_cases c14 : t211 = true
            · subst c14
              have H1 : (if x5_1.length < 17592186044416 then (verditerref06_mark.l0 k1 l0 a1 (x5_1 ++ [(-1)]) (wrap64 (x6_1 + 1))) else (none)) = some r := by rw [if_pos rfl] at H; exact H
              clear H
              have H := H1
              clear H1
              by_cases c15 : x5_1.length < 17592186044416
              · rw [if_pos c15] at H
                have LMc15 := Aside0.mk c15
                clear c15
                obtain ⟨y212, hy212⟩ : ∃ y_ : List Int, y_ = (x5_1 ++ [(-1)]) := ⟨_, rfl⟩
                replace H : (verditerref06_mark.l0 k1 l0 a1 y212 (wrap64 (x6_1 + 1))) = some r := by first | (rw [hy212]; with_reducible exact H) | (have H2_ := (Option.bind_some _ _).symm.trans H; rw [hy212]; with_reducible exact H2_) | (have H2_ := (Option.bind_some _ _).symm.trans H; with_reducible exact H2_) | with_reducible exact H | (rw [hy212]; exact H) | exact H
                have Ny212 := Aside0.mk hy212
                clear hy212
                have H' := Aside0.mk H
                clear H
                have p200 : 0 ≤ (x6_1 : Int) := of_decide_eq_true (by first | (with_reducible assumption) | assumption)
                have q200 : x6_1 < (l0.length : Int) := of_decide_eq_true (by first | (with_reducible assumption) | assumption)
                obtain ⟨ad200, A200_0, c200_0, A200_1, c200_1, e200, hx200_0, hx200_1, hl200_0, hi200_0, hl200_1, hi200_1⟩ := at_T53 HR0.out x6_1 p200 q200
                cases e200
                replace hx200_0 := (HB.out.cell (World.block_lt_of_cell? w _ hx200_0)).trans hx200_0
                replace hx200_1 := (HB.out.cell (World.block_lt_of_cell? w _ hx200_1)).trans hx200_1
                have HR200_0 := Aside0.mk hi200_0
                have HC200_0 := Aside0.mk hl200_0
                clear hi200_0 hl200_0
                have HR200_1 := Aside0.mk hi200_1
                have HC200_1 := Aside0.mk hl200_1
                clear hi200_1 hl200_1
                replace p200 := eq_true p200
                replace q200 := eq_true q200
                go_wp2_with (first | ((with_reducible refine gate_callee (f := 101) rfl ?_); refine goesL_ (some 20) rfl rfl Try.func101 (by kernel_rfl) rfl #[.slice A200_0 ((rd_T53 l0 x6_1).f0).length c200_0, .int .i64 a1] rfl (by (try simp only [List.map_toArray, List.map_cons, List.map_nil]); first | done | rfl | (simp only [List.length_drop, List.length_take]; rfl)) ?_; (with_reducible refine (verditerref06_has.calls k1 _ _ ((rd_T53 l0 x6_1).f0) a1 false _ ?side1 ?side2 A5.out).mono ?_); (case side1 => repeat (first | exact (Kd.C_below HR200_0.out HB.out) | (with_reducible refine Kd.C_alloc ?_ _) | (with_reducible refine Kd.C_drewN ?_ _) | (with_reducible refine Kd.C_drew ?_))); (case side2 => exact HC200_0.out); rintro e w' ⟨rfl, ⟨nd, rfl⟩⟩; refine ⟨_, rfl, ?_⟩; have p210 : 0 ≤ (x6_1 : Int) := of_decide_eq_true (by first | (with_reducible assumption) | assumption); have q210 : x6_1 < (l0.length : Int) := of_decide_eq_true (by first | (with_reducible assumption) | assumption); obtain ⟨ad210, A210_0, c210_0, A210_1, c210_1, e210, hx210_0, hx210_1, hl210_0, hi210_0, hl210_1, hi210_1⟩ := at_T53 HR0.out x6_1 p210 q210; obtain rfl : ad200 = ad210 := (by injection e210); replace hx210_0 := (HB.out.cell (World.block_lt_of_cell? w _ hx210_0)).trans hx210_0; replace hx210_1 := (HB.out.cell (World.block_lt_of_cell? w _ hx210_1)).trans hx210_1; have HR210_0 := Aside0.mk hi210_0; have HC210_0 := Aside0.mk hl210_0; clear hi210_0 hl210_0; have HR210_1 := Aside0.mk hi210_1; have HC210_1 := Aside0.mk hl210_1; clear hi210_1 hl210_1; replace p210 := eq_true p210; replace q210 := eq_true q210; have ea_ := Option.some.inj (hx200_0.symm.trans hx210_0); injection ea_ with ea_ en_ ec_; subst ea_; subst ec_; clear en_; have ea_ := Option.some.inj (hx200_1.symm.trans hx210_1); injection ea_ with ea_ en_ ec_; subst ea_; subst ec_; clear en_) | ((with_reducible refine gate_callee (f := 101) rfl ?_); refine goesL_ (some 27) rfl rfl Try.func101 (by kernel_rfl) rfl #[.slice A200_1 ((rd_T53 l0 x6_1).f1).length c200_1, .int .i64 a1] rfl (by (try simp only [List.map_toArray, List.map_cons, List.map_nil]); first | done | rfl | (simp only [List.length_drop, List.length_take]; rfl)) ?_; (with_reducible refine (verditerref06_has.calls k1 _ _ ((rd_T53 l0 x6_1).f1) a1 true _ ?side1 ?side2 A13.out).mono ?_); (case side1 => repeat (first | exact (Kd.C_below HR210_1.out (by repeat (first | (with_reducible first | exact HB.out | apply below_alloc | apply pw_below_drewN | apply below_drew1) | exact HB.out))) | (with_reducible refine Kd.C_alloc ?_ _) | (with_reducible refine Kd.C_drewN ?_ _) | (with_reducible refine Kd.C_drew ?_))); (case side2 => exact HC210_1.out); rintro e w' ⟨rfl, ⟨nd, rfl⟩⟩; refine ⟨_, rfl, ?_⟩) | ((with_reducible refine gate_builtin (b := .append) (xs := #[.tmp 28, .tmp 30]) rfl ?_); at_builtin; refine Kd.R_append (Kd.int .i64) (w0 := w) w.heap.size rfl (.tmp 28) (.tmp 30) 43 3 (.int .i64 0) 8 rfl Try.underlying43 info3 rfl (by decide) (by omega) u5 x5_1 (-1) [.int .i64 (-1)] (fun _ => True) (fun _ => False) rfl rfl ?aP (fun _ hk => hk.elim) ?aF ?aO ?aB ?aS ?aL ?_; (case aP => exact rfl); (case aB => exact (by repeat (first | (with_reducible first | exact HB.out | apply below_alloc | apply pw_below_drewN | apply below_drew1) | exact HB.out))); (case aF => exact (fun _ _ => trivial)); (case aO => exact (by (with_reducible repeat (first | apply Kd.R_alloc | apply Kd.R_drewN | apply Kd.R_drew)); exact HO_5.out)); (case aS => exact (below_size (by repeat (first | (with_reducible first | exact HB.out | apply below_alloc | apply pw_below_drewN | apply below_drew1) | exact HB.out)))); (case aL => have := LMc15.out; omega); intro v213 w16 ho hb hg hat; rw [← Ny212.out] at ho; have n0_ := Aside0.mk (hb); have n1_ := Aside0.mk (ho); clear HB; clear HO_5; have HB := n0_; have HO214 := n1_; clear n0_ n1_; clear ho hb hg hat))
                go_roundg k1
                case measure => have := HK1.out; omega
                case rel => exact ⟨(y212), (wrap64 (x6_1 + 1)), (by first | rfl | (simp; done) | (simp [*]; done)), H', ⟨by have := HK1.out; omega⟩, ⟨by (with_reducible repeat (first | apply Kd.R_alloc | apply Kd.R_drewN | apply Kd.R_drew)); exact HO214.out⟩, ⟨by repeat (first | (with_reducible first | exact HB.out | apply below_alloc | apply pw_below_drewN | apply below_drew1) | exact HB.out)⟩⟩
              · rw [if_neg c15] at H
                exact absurd H (by simp)
            · replace c14 := Bool.eq_false_iff.mpr c14
              subst c14
              have H1 : (if x5_1.length < 17592186044416 then (verditerref06_mark.l0 k1 l0 a1 (x5_1 ++ [0]) (wrap64 (x6_1 + 1))) else (none)) = some r := by rw [if_neg (show ¬ (false = true) by decide)] at H; exact H
              clear H
              have H := H1
              clear H1
              by_cases c17 : x5_1.length < 17592186044416
              · rw [if_pos c17] at H
                have LMc17 := Aside0.mk c17
                clear c17
                obtain ⟨y215, hy215⟩ : ∃ y_ : List Int, y_ = (x5_1 ++ [0]) := ⟨_, rfl⟩
                replace H : (verditerref06_mark.l0 k1 l0 a1 y215 (wrap64 (x6_1 + 1))) = some r := by first | (rw [hy215]; with_reducible exact H) | (have H2_ := (Option.bind_some _ _).symm.trans H; rw [hy215]; with_reducible exact H2_) | (have H2_ := (Option.bind_some _ _).symm.trans H; with_reducible exact H2_) | with_reducible exact H | (rw [hy215]; exact H) | exact H
                have Ny215 := Aside0.mk hy215
                clear hy215
                have H' := Aside0.mk H
                clear H
                have p200 : 0 ≤ (x6_1 : Int) := of_decide_eq_true (by first | (with_reducible assumption) | assumption)
                have q200 : x6_1 < (l0.length : Int) := of_decide_eq_true (by first | (with_reducible assumption) | assumption)
                obtain ⟨ad200, A200_0, c200_0, A200_1, c200_1, e200, hx200_0, hx200_1, hl200_0, hi200_0, hl200_1, hi200_1⟩ := at_T53 HR0.out x6_1 p200 q200
                cases e200
                replace hx200_0 := (HB.out.cell (World.block_lt_of_cell? w _ hx200_0)).trans hx200_0
                replace hx200_1 := (HB.out.cell (World.block_lt_of_cell? w _ hx200_1)).trans hx200_1
                have HR200_0 := Aside0.mk hi200_0
                have HC200_0 := Aside0.mk hl200_0
                clear hi200_0 hl200_0
                have HR200_1 := Aside0.mk hi200_1
                have HC200_1 := Aside0.mk hl200_1
                clear hi200_1 hl200_1
                replace p200 := eq_true p200
                replace q200 := eq_true q200
                go_wp2_with (first | ((with_reducible refine gate_callee (f := 101) rfl ?_); refine goesL_ (some 20) rfl rfl Try.func101 (by kernel_rfl) rfl #[.slice A200_0 ((rd_T53 l0 x6_1).f0).length c200_0, .int .i64 a1] rfl (by (try simp only [List.map_toArray, List.map_cons, List.map_nil]); first | done | rfl | (simp only [List.length_drop, List.length_take]; rfl)) ?_; (with_reducible refine (verditerref06_has.calls k1 _ _ ((rd_T53 l0 x6_1).f0) a1 false _ ?side1 ?side2 A5.out).mono ?_); (case side1 => repeat (first | exact (Kd.C_below HR200_0.out HB.out) | (with_reducible refine Kd.C_alloc ?_ _) | (with_reducible refine Kd.C_drewN ?_ _) | (with_reducible refine Kd.C_drew ?_))); (case side2 => exact HC200_0.out); rintro e w' ⟨rfl, ⟨nd, rfl⟩⟩; refine ⟨_, rfl, ?_⟩; have p210 : 0 ≤ (x6_1 : Int) := of_decide_eq_true (by first | (with_reducible assumption) | assumption); have q210 : x6_1 < (l0.length : Int) := of_decide_eq_true (by first | (with_reducible assumption) | assumption); obtain ⟨ad210, A210_0, c210_0, A210_1, c210_1, e210, hx210_0, hx210_1, hl210_0, hi210_0, hl210_1, hi210_1⟩ := at_T53 HR0.out x6_1 p210 q210; obtain rfl : ad200 = ad210 := (by injection e210); replace hx210_0 := (HB.out.cell (World.block_lt_of_cell? w _ hx210_0)).trans hx210_0; replace hx210_1 := (HB.out.cell (World.block_lt_of_cell? w _ hx210_1)).trans hx210_1; have HR210_0 := Aside0.mk hi210_0; have HC210_0 := Aside0.mk hl210_0; clear hi210_0 hl210_0; have HR210_1 := Aside0.mk hi210_1; have HC210_1 := Aside0.mk hl210_1; clear hi210_1 hl210_1; replace p210 := eq_true p210; replace q210 := eq_true q210; have ea_ := Option.some.inj (hx200_0.symm.trans hx210_0); injection ea_ with ea_ en_ ec_; subst ea_; subst ec_; clear en_; have ea_ := Option.some.inj (hx200_1.symm.trans hx210_1); injection ea_ with ea_ en_ ec_; subst ea_; subst ec_; clear en_) | ((with_reducible refine gate_callee (f := 101) rfl ?_); refine goesL_ (some 27) rfl rfl Try.func101 (by kernel_rfl) rfl #[.slice A200_1 ((rd_T53 l0 x6_1).f1).length c200_1, .int .i64 a1] rfl (by (try simp only [List.map_toArray, List.map_cons, List.map_nil]); first | done | rfl | (simp only [List.length_drop, List.length_take]; rfl)) ?_; (with_reducible refine (verditerref06_has.calls k1 _ _ ((rd_T53 l0 x6_1).f1) a1 false _ ?side1 ?side2 A13.out).mono ?_); (case side1 => repeat (first | exact (Kd.C_below HR210_1.out (by repeat (first | (with_reducible first | exact HB.out | apply below_alloc | apply pw_below_drewN | apply below_drew1) | exact HB.out))) | (with_reducible refine Kd.C_alloc ?_ _) | (with_reducible refine Kd.C_drewN ?_ _) | (with_reducible refine Kd.C_drew ?_))); (case side2 => exact HC210_1.out); rintro e w' ⟨rfl, ⟨nd, rfl⟩⟩; refine ⟨_, rfl, ?_⟩) | ((with_reducible refine gate_builtin (b := .append) (xs := #[.tmp 28, .tmp 30]) rfl ?_); at_builtin; refine Kd.R_append (Kd.int .i64) (w0 := w) w.heap.size rfl (.tmp 28) (.tmp 30) 43 3 (.int .i64 0) 8 rfl Try.underlying43 info3 rfl (by decide) (by omega) u5 x5_1 0 [.int .i64 0] (fun _ => True) (fun _ => False) rfl rfl ?aP (fun _ hk => hk.elim) ?aF ?aO ?aB ?aS ?aL ?_; (case aP => exact rfl); (case aB => exact (by repeat (first | (with_reducible first | exact HB.out | apply below_alloc | apply pw_below_drewN | apply below_drew1) | exact HB.out))); (case aF => exact (fun _ _ => trivial)); (case aO => exact (by (with_reducible repeat (first | apply Kd.R_alloc | apply Kd.R_drewN | apply Kd.R_drew)); exact HO_5.out)); (case aS => exact (below_size (by repeat (first | (with_reducible first | exact HB.out | apply below_alloc | apply pw_below_drewN | apply below_drew1) | exact HB.out)))); (case aL => have := LMc17.out; omega); intro v216 w18 ho hb hg hat; rw [← Ny215.out] at ho; have n0_ := Aside0.mk (hb); have n1_ := Aside0.mk (ho); clear HB; clear HO_5; have HB := n0_; have HO217 := n1_; clear n0_ n1_; clear ho hb hg hat))
                go_roundg k1
                case measure => have := HK1.out; omega
                case rel => exact ⟨(y215), (wrap64 (x6_1 + 1)), (by first | rfl | (simp; done) | (simp [*]; done)), H', ⟨by have := HK1.out; omega⟩, ⟨by (with_reducible repeat (first | apply Kd.R_alloc | apply Kd.R_drewN | apply Kd.R_drew)); exact HO217.out⟩, ⟨by repeat (first | (with_reducible first | exact HB.out | apply below_alloc | apply pw_below_drewN | apply below_drew1) | exact HB.out)⟩⟩
              · rw [if_neg c17] at H
                exact absurd H (by simp)
        · rw [if_neg c4] at H
          exact absurd H (by simp)
      · rw [if_neg c3] at H
        have c3b0 : decide (x6_1 < (l0.length : Int)) = false := decide_eq_false c3
        clear c3
        obtain rfl := Option.some.inj H
        go_wp2
        go_ret
        exact ⟨_, by first | rfl | (simp [errW_none, errW_some] <;> rfl) | (simp [*, errW_none, errW_some] <;> rfl), by (with_reducible repeat (first | apply Kd.R_alloc | apply Kd.R_drewN | apply Kd.R_drew)); exact HO_5.out, by repeat (first | (with_reducible first | exact HB.out | apply below_alloc | apply pw_below_drewN | apply below_drew1) | exact HB.out)⟩

end Go.Proofs.Ytdbeochifofdoaa.X
end

section
-- Written by a program of this session (wip/hook.py, which runs the kit's print.py with contracts proved by hand). Not trusted: Lean checks it.
namespace Go.Proofs.Ytdbeochifofdoaa.X
open Go.RowKit Go.Proofs.YtdbeochifofdoaaW.PrintWords Go.Proofs.YtdbeochifofdoaaW.PrintLast Go.Proofs.YtdbeochifofdoaaW.PrintMore
attribute [local go_sem] max2_int min2_int max_two min_two max_three min_three max_four min_four   -- for this text's walks alone
set_option linter.unusedVariables false
set_option linter.unusedSimpArgs false

/-! ### verditerref06_isBlank: function 81 -/
def verditerref06_isBlank.l0 : Nat → List Int → Int → Option (Bool)
  | 0, _, _ => none
  | k + 1, x0, x3 => if x3 < (x0.length : Int) then (if 0 ≤ x3 then (if (rd x0 x3) = 0 then (verditerref06_isBlank.l0 k x0 (wrap64 (x3 + 1))) else (some false)) else (none)) else (some true)
def verditerref06_isBlank.f (k : Nat) (l0 : List Int) : Option (Bool) := verditerref06_isBlank.l0 k l0 0
theorem verditerref06_isBlank.mono_l : ∀ k, (∀ y0 y1, LeO (verditerref06_isBlank.l0 k y0 y1) (verditerref06_isBlank.l0 (k + 1) y0 y1))
  | 0 => fun _ _ r h => by simp [verditerref06_isBlank.l0] at h
  | k + 1 => by
    have ih0 := verditerref06_isBlank.mono_l k
    · intro y0 y1
      unfold verditerref06_isBlank.l0
      repeat' first
      | (with_reducible exact ih0 _ _)
      | (with_reducible exact LeO.refl _)
      | (with_reducible exact LeO.none _)
      | (with_reducible refine LeO.ite ?_ ?_)
      | (with_reducible refine LeO.bind ?_ (fun _ => ?_))
      | exact ih0 _ _
      | exact LeO.none _
      | refine LeO.ite ?_ ?_
      | refine LeO.bind ?_ (fun _ => ?_)
theorem verditerref06_isBlank.mono : ∀ a0 k, LeO (verditerref06_isBlank.f k a0) (verditerref06_isBlank.f (k + 1) a0) := by
  intro a0 k
  have ih0 := verditerref06_isBlank.mono_l k
  unfold verditerref06_isBlank.f
  repeat' first
      | (with_reducible exact ih0 _ _)
      | (with_reducible exact LeO.refl _)
      | (with_reducible exact LeO.none _)
      | (with_reducible refine LeO.ite ?_ ?_)
      | (with_reducible refine LeO.bind ?_ (fun _ => ?_))
      | exact ih0 _ _
      | exact LeO.none _
      | refine LeO.ite ?_ ?_
      | refine LeO.bind ?_ (fun _ => ?_)
set_option maxHeartbeats 8000000 in
set_option maxRecDepth 100000 in
theorem verditerref06_isBlank.calls (k : Nat) (A0 : Option Addr) (c0 : Nat) (l0 : List Int) (r : Bool) (w : World) (hr0 : Kd.C (Kd.int .i64) w A0 l0.length l0) (hc0 : l0.length ≤ c0) (h : verditerref06_isBlank.f k l0 = some r) :
    Calls Try.prog 81 #[.slice A0 l0.length c0] w fun e w' => e = .returned (.bool r) ∧ Drawn0 w w' := by
  have HR0 := Aside0.mk hr0
  have HC0 := Aside0.mk hc0
  clear hr0 hc0
  have H : (verditerref06_isBlank.l0 k l0 0) = some r := h
  clear h
  have H' := Aside0.mk H
  clear H
  go_enter Try.func81, Try.ntmps81
  go_wp2
  go_loopg [3] k (fun kq v3 w' => ∃ (x3_1 : Int), v3 = .int .i64 x3_1 ∧ Aside0 (verditerref06_isBlank.l0 kq l0 x3_1 = some r) ∧ Aside0 (kq ≤ k) ∧ Drawn0 w w')
  case atStart => exact ⟨(0), (by first | rfl | (simp; done) | (simp [*]; done)), H', ⟨Nat.le_refl _⟩, by repeat (first | exact Drawn0.refl _ | apply Drawn0.step)⟩
  case round =>
    clear H'
    obtain ⟨x3_1, rfl, HA, HK1, ⟨m1, rfl⟩⟩ := hrel
    cases gk with
    | zero => exact absurd HA.out (by simp [verditerref06_isBlank.l0])
    | succ k1 =>
      have H := HA.out
      clear HA
      simp only [verditerref06_isBlank.l0] at H
      by_cases c2 : x3_1 < (l0.length : Int)
      · rw [if_pos c2] at H
        have c2b0 : decide (x3_1 < (l0.length : Int)) = true := decide_eq_true c2
        clear c2
        by_cases c3 : 0 ≤ x3_1
        · rw [if_pos c3] at H
          have c3b0 : decide (0 ≤ x3_1) = true := decide_eq_true c3
          clear c3
          by_cases c4 : (rd l0 x3_1) = 0
          · rw [if_pos c4] at H
            have c4b0 : ((rd l0 x3_1) == 0) = true := beq_iff_eq.mpr c4
            have c4b1 : ((rd l0 x3_1) != 0) = false := bne_eq_false_iff_eq.mpr c4
            clear c4
            have H' := Aside0.mk H
            clear H
            have p218 : 0 ≤ (x3_1 : Int) := of_decide_eq_true (by first | (with_reducible assumption) | assumption)
            have q218 : x3_1 < (l0.length : Int) := of_decide_eq_true (by first | (with_reducible assumption) | assumption)
            obtain ⟨ad218, e218, hx218_0⟩ := Kd.at_int HR0.out x3_1 p218 q218
            cases e218
            replace p218 := eq_true p218
            replace q218 := eq_true q218
            go_wp2
            go_roundg k1
            case measure => have := HK1.out; omega
            case rel => exact ⟨(wrap64 (x3_1 + 1)), (by first | rfl | (simp; done) | (simp [*]; done)), H', ⟨by have := HK1.out; omega⟩, by repeat (first | exact Drawn0.refl _ | apply Drawn0.step)⟩
          · rw [if_neg c4] at H
            have c4b0 : ((rd l0 x3_1) == 0) = false := beq_eq_false_iff_ne.mpr c4
            have c4b1 : ((rd l0 x3_1) != 0) = true := bne_iff_ne.mpr c4
            obtain rfl := Option.some.inj H
            have p218 : 0 ≤ (x3_1 : Int) := of_decide_eq_true (by first | (with_reducible assumption) | assumption)
            have q218 : x3_1 < (l0.length : Int) := of_decide_eq_true (by first | (with_reducible assumption) | assumption)
            obtain ⟨ad218, e218, hx218_0⟩ := Kd.at_int HR0.out x3_1 p218 q218
            cases e218
            replace p218 := eq_true p218
            replace q218 := eq_true q218
            go_wp2
            go_ret
            exact ⟨by first | rfl | (simp; done) | (simp [*]; done), by repeat (first | exact Drawn0.refl _ | apply Drawn0.step)⟩
        · rw [if_neg c3] at H
          exact absurd H (by simp)
      · rw [if_neg c2] at H
        have c2b0 : decide (x3_1 < (l0.length : Int)) = false := decide_eq_false c2
        clear c2
        obtain rfl := Option.some.inj H
        go_wp2
        go_ret
        exact ⟨by first | rfl | (simp; done) | (simp [*]; done), by repeat (first | exact Drawn0.refl _ | apply Drawn0.step)⟩

end Go.Proofs.Ytdbeochifofdoaa.X
end
