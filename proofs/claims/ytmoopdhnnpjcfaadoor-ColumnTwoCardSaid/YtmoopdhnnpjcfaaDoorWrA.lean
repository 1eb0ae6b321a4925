import Derived.Test.YtmoopdhnnpjcfaaDoorTkN
import Derived.Test.YtmoopdhnnpjcfaaDoorSpA
/-! Column: great; what the document's Write tells, in parts. -/
namespace Go.Proofs.YtmoopdhnnpjcfaaDoor.Co
open Go.RowKit Go.Proofs.YtmoopdhnnpjcfaaDoorW.PrintWords Go.Proofs.YtmoopdhnnpjcfaaDoorW.PrintLast Go.Proofs.YtmoopdhnnpjcfaaDoorW.PrintMore Go.Proofs.YtmoopdhnnpjcfaaDoor.Wire Go.Proofs.YtmoopdhnnpjcfaaDoor.PCo Go.Proofs.YtmoopdhnnpjcfaaDoor.CoG
set_option linter.unusedVariables false
set_option linter.unusedSimpArgs false
set_option maxRecDepth 100000
/-! ### great -/
def gs (l : List S47) : Nat → Int
  | 0 => 0
  | j + 1 => wrap64 (gs l j + (1 + ((tx l j).size : Int)))
theorem gs_exact {l : List S47} (hl : l.length ≤ 5864062014635) (ht : ∀ j, j < l.length → (tx l j).size ≤ 256) : ∀ j, j ≤ l.length → (j : Int) ≤ gs l j ∧ gs l j ≤ 257 * (j : Int)
  | 0, _ => by simp [gs]
  | j + 1, h => by
    have ih := gs_exact hl ht j (by omega)
    have := ht j (by omega)
    rw [gs, w64 (by omega) (by omega)]
    omega
theorem gs_text {l : List S47} (hl : l.length ≤ 5864062014635) (ht : ∀ j, j < l.length → (tx l j).size ≤ 256) : ∀ i j, i < j → j ≤ l.length → (tx l i).size + j ≤ gs l j
  | i, 0, h, _ => absurd h (Nat.not_lt_zero _)
  | i, j + 1, h, hj => by
    have hg := gs_exact hl ht j (by omega)
    have := ht j (by omega)
    rw [gs, w64 (by omega) (by omega)]
    by_cases e : i = j
    · subst e; omega
    · have := gs_text hl ht i j (by omega) (by omega)
      omega
theorem chk_small {k num : Int} {s : ByteArray} (h : chk k num s = 0) : s.size ≤ 256 := by
  by_cases hk : k = 3 ∨ k = 4
  · exact (chk_text h hk).2.1
  · rw [(chk_num h hk).1]; exact Nat.zero_le _
/-- Cells that may be, and that are not more than are looked at. -/
theorem small_write {k : Int} {l : List S47} (hl : l.length ≤ 5864062014635) (hg : ¬ gs l l.length > 5000) (he : wErr k l = 0) : Small l ∧ l.length ≤ 5000 := by
  have hk : 0 ≤ k ∧ k ≤ 5 := by
    by_cases h : 0 ≤ k ∧ k ≤ 5
    · exact h
    · rw [wErr, if_neg h] at he; simp at he
  rw [wErr, if_pos hk] at he
  have hc := fe_all he
  have ht : ∀ j, j < l.length → (tx l j).size ≤ 256 := fun j hj => chk_small (hc j hj)
  have h1 := (gs_exact hl ht l.length (Nat.le_refl _)).1
  refine ⟨⟨by omega, fun i => ?_⟩, by omega⟩
  by_cases hi : i < l.length
  · have := ht i hi; omega
  · unfold tx rd_T47
    rw [Int.toNat_natCast, List.getD_eq_getElem?_getD, List.getElem?_eq_none (by omega)]
    exact Nat.zero_le _
set_option maxHeartbeats 4000000 in
theorem great_calls {A : Option Addr} {c : Nat} {l : List S47} (w : World) (hr : Kd.C k47 w A l.length l) (hl : l.length ≤ 140737488351232) (htx : ∀ i, (tx l i).size ≤ 140737488351232) :
    Calls Tryd.prog 21 #[.slice A l.length c] w fun e w' => e = .returned (.bool (decide (gs l l.length > 5000))) ∧ Below w.heap.size w w' := by
  have HR := Aside0.mk hr
  have HTX := Aside0.mk htx
  obtain ⟨n, hn⟩ : ∃ n, l.length = n := ⟨_, rfl⟩
  have HN := Aside0.mk hn
  have hnb : n ≤ 140737488351232 := by omega
  rw [hn]
  clear hr hn hl htx
  go_enter Tryd.func21, Tryd.ntmps21
  go_wp2_with fail
  go_loopw [3, 8] (fun g i wr => ∃ j : Nat, j ≤ n ∧ i = .int .i64 (j : Int) ∧ g = .int .i64 (gs l j) ∧ Aside0 (Below w.heap.size w wr)) (fun _ i _ => n - (intOf i).toNat)
  case atStart => exact ⟨0, by omega, rfl, rfl, ⟨Below.refl _ _⟩⟩
  case round =>
    obtain ⟨j, hj, rfl, rfl, HB⟩ := hrel
    by_cases hlt : j < n
    · have u1 : decide ((j : Int) < (n : Int)) = true := decide_eq_true (by omega)
      have u2 : decide (j < n) = true := decide_eq_true hlt
      have HLT := Aside0.mk hlt
      obtain ⟨ad, e, h0, h1⟩ := at_T47 (Kd.C_below HR.out HB.out) (j : Int) (by omega) (by have := HN.out; omega)
      cases e
      rw [Int.toNat_natCast] at h0 h1
      have p1 : (0 ≤ (j : Int)) = True := eq_true (by omega)
      have p2 : ((j : Int) < (n : Int)) = True := eq_true (by omega)
      have hmax : (j : Int) + 1 ≤ 9223372036854775807 := by omega
      have HG := Aside0.mk (show gs l (j + 1) = wrap64 (gs l j + (1 + ((tx l j).size : Int))) from rfl)
      have hsz := HTX.out j
      obtain ⟨s, hse⟩ : ∃ s, tx l j = s := ⟨_, rfl⟩
      obtain ⟨x, hne⟩ : ∃ x, (rd_T47 l (j : Int)).f0 = x := ⟨_, rfl⟩
      rw [show (rd_T47 l (j : Int)).f1 = s from hse] at h1
      rw [hne] at h0
      rw [hse] at HG hsz
      obtain ⟨g, hg⟩ : ∃ g, gs l j = g := ⟨_, rfl⟩
      rw [hg] at HG ⊢
      have HBA := Aside0.mk (below_alloc HB.out (.cells #[.int .u64 x, .string s] 47))
      clear hlt hj hse hne hg
      go_wp2_with fail
      go_roundw
      case rel => exact ⟨j + 1, HLT.out, by go_num, by rw [HG.out], ⟨HBA.out⟩⟩
      case measure => have := HLT.out; simp [intOf]; omega
    · have u1 : decide ((j : Int) < (n : Int)) = false := decide_eq_false (by omega)
      have u2 : decide (j < n) = false := decide_eq_false hlt
      obtain rfl : n = j := by omega
      go_wp2
      go_ret
      exact ⟨rfl, HB.out⟩
/-! ### the document's Write, in parts -/
def lnum (l : List S47) (j : Nat) : Int := if j = 0 then 0 else nm l (j - 1)
theorem lnum_next (l : List S47) (j : Nat) : lnum l (j + 1) = nm l j := by unfold lnum; rw [if_neg (by omega)]; rfl
theorem lastT_next (l : List S47) (j : Nat) : lastT l (j + 1) = tx l j := by unfold lastT; rw [if_neg (by omega)]; rfl
def pnum (l : List S47) (j : Nat) : List Int := if j = 0 then [] else uv (nm l 0).toNat ++ nbs l (nm l 0) 1 (j - 1)
theorem pnum_one (l : List S47) : pnum l (0 + 1) = pnum l 0 ++ uv (nm l 0).toNat := by simp [pnum, nbs]
theorem pnum_next (l : List S47) {j : Nat} (h : j ≠ 0) : pnum l (j + 1) = pnum l j ++ dlt (lnum l j) (nm l j) := by
  obtain ⟨i, rfl⟩ : ∃ i, j = i + 1 := ⟨j - 1, by omega⟩
  unfold pnum lnum
  rw [if_neg (by omega), if_neg (by omega), if_neg (by omega), Nat.add_sub_cancel, Nat.add_sub_cancel, nbs, List.append_assoc]
  congr 3
  · split
    · rename_i e; subst e; rfl
    · congr 1; omega
  · congr 1; omega
theorem psig_next (l : List S47) (j : Nat) : nbs l 0 0 (j + 1) = nbs l 0 0 j ++ dlt (lnum l j) (nm l j) := by
  rw [nbs, Nat.zero_add]
  rfl
theorem pnum_all (l : List S47) : pnum l l.length = Co.nums l := rfl
theorem pnum_len (l : List S47) (j : Nat) (hn : 0 ≤ nm l 0 ∧ nm l 0 < 18446744073709551616) : (pnum l j).length ≤ 10 * j := by
  unfold pnum
  split
  · exact Nat.zero_le _
  · have := nbs_len l (nm l 0) 1 (j - 1)
    have : (uv (nm l 0).toNat).length ≤ 10 := usz_le10 (by omega)
    rw [List.length_append]
    omega
theorem wb_grow (l : List S47) (m : Nat) : ∀ j, j ≤ 8 * m → wb l (m + 1) j = wb l m j ++ [0]
  | 0, _ => by rw [wb, wb, List.replicate_succ']
  | j + 1, h => by
    have ih := wb_grow l m j (by omega)
    have hrd : rd (wb l (m + 1) j) ((j / 8 : Nat) : Int) = rd (wb l m j) ((j / 8 : Nat) : Int) := by
      unfold rd
      rw [Int.toNat_natCast, ih, List.getD_eq_getElem?_getD, List.getD_eq_getElem?_getD, List.getElem?_append_left (by rw [wb_len]; omega)]
    rw [wb, wb, hrd, ih, List.set_append_left _ _ (by rw [wb_len]; omega)]
def pbool (l : List S47) (j : Nat) : List Int := wb l ((j + 7) / 8) j
theorem pbool_len (l : List S47) (j : Nat) : (pbool l j).length = (j + 7) / 8 := wb_len _ _ _
/-- What is set into the last byte. -/
theorem pbool_next {l : List S47} (hnm : ∀ j, j < l.length → 0 ≤ nm l j ∧ nm l j ≤ 1) {j : Nat} (hj : j < l.length) :
    ∃ t, (if j % 8 = 0 then pbool l j ++ [0] else pbool l j) = t ∧ t.length = j / 8 + 1 ∧ pbool l (j + 1) = t.set (j / 8) (rd t ((j / 8 : Nat) : Int) + nm l j * 2 ^ (j % 8)) ∧ 0 ≤ rd t ((j / 8 : Nat) : Int) ∧ rd t ((j / 8 : Nat) : Int) < 2 ^ (j % 8) := by
  have ht : (if j % 8 = 0 then pbool l j ++ [0] else pbool l j) = wb l (j / 8 + 1) j := by
    unfold pbool
    by_cases h : j % 8 = 0
    · rw [if_pos h, show (j + 7) / 8 = j / 8 by omega, wb_grow l _ j (by omega)]
    · rw [if_neg h, show (j + 7) / 8 = j / 8 + 1 by omega]
  have hw := wb_at l (j / 8 + 1) hnm j (by omega) (by omega) (j / 8) (by omega)
  have hrd : rd (wb l (j / 8 + 1) j) ((j / 8 : Nat) : Int) = bs l (8 * (j / 8)) (j % 8) := by
    unfold rd
    rw [Int.toNat_natCast, List.getD_eq_getElem?_getD, hw, show min 8 (j - 8 * (j / 8)) = j % 8 by omega]; rfl
  have hl := bs_lt (l := l) (o := 8 * (j / 8)) (j % 8) (fun r hr => hnm _ (by omega))
  refine ⟨_, ht, wb_len _ _ _, ?_, by rw [hrd]; exact hl.1, by rw [hrd]; exact hl.2⟩
  unfold pbool
  rw [show (j + 1 + 7) / 8 = j / 8 + 1 by omega, wb, hrd, or_bit_ hl.1 (by omega) hl.2 (hnm j hj)]
/-! ### the document's calls -/
theorem rcheck_calls (k num : Int) (s : ByteArray) (w : World) (hs : s.size ≤ 2305843009213693952) (hn : 0 ≤ num) : Calls Tryd.prog 47 #[.int .i64 k, .agg #[.int .u64 num, .string s]] w fun e w' => e = .returned (.int .i64 (chk k num s)) ∧ Below w.heap.size w w' :=
  deckleref04_Check.calls (10 * s.size + 16) k num s _ w (refCheck k num s hs hn _ (Nat.le_refl _))
theorem ruint_calls (x : Int) (h0 : 0 ≤ x) (h1 : x < 18446744073709551616) (w : World) : Calls Tryd.prog 67 #[.int .u64 x] w fun e w' => ∃ v : Value, e = .returned v ∧ Kd.R (Kd.int .u8) 5 w' w.heap.size (fun _ => True) v (uv x.toNat) ∧ Below w.heap.size w w' := by
  obtain ⟨n, rfl⟩ := Int.eq_ofNat_of_zero_le h0
  rw [Int.toNat_natCast]
  exact deckleref01_Uint.calls 12 _ _ w (refUint n (by omega) 12 (by decide))
theorem rint_calls (a b : Int) (w : World) : Calls Tryd.prog 69 #[.int .i64 (wrap64 (IntKind.u64.wrap (b - a)))] w fun e w' => ∃ v : Value, e = .returned v ∧ Kd.R (Kd.int .u8) 5 w' w.heap.size (fun _ => True) v (dlt a b) ∧ Below w.heap.size w w' := by
  have h := wrap64_range (IntKind.u64.wrap (b - a))
  exact deckleref01_Int.calls 12 _ _ w (refInt h.1 h.2 12 (by decide))
theorem rbytes_calls {A : Option Addr} {c n : Nat} {l : List Int} (hn : l.length = n) (hl : l.length ≤ 140737488351232) (hc : l.length ≤ c) (w : World) (hr : Kd.C (Kd.int .u8) w A l.length l) : Calls Tryd.prog 68 #[.slice A n c] w fun e w' => ∃ v : Value, e = .returned v ∧ Kd.R (Kd.int .u8) 5 w' w.heap.size (fun _ => True) v (uv l.length ++ l) ∧ Below w.heap.size w w' := by
  subst hn
  exact deckleref01_Bytes.calls 12 A c l _ w hr hc (refBytes l hl 12 (by decide))
theorem rshared_calls (a b : ByteArray) (ha : a.size ≤ 4611686018427387904) (w : World) : Calls Tryd.prog 33 #[.string a, .string b] w fun e w' => e = .returned (.int .i64 (shared a b : Int)) ∧ Below w.heap.size w w' :=
  (deckleref09_Shared.calls (a.size + 1) a b _ w (refShared a b ha _ (Nat.le_refl _))).mono fun _ _ ⟨he, hd⟩ => ⟨he, hd.below⟩
end Go.Proofs.YtmoopdhnnpjcfaaDoor.Co
