import Derived.Test.YtnmjelcicbfjdaaDoorCrcSpec
import Derived.Test.YtnmjelcicbfjdaaDoorPCbx
namespace Go.Proofs.YtnmjelcicbfjdaaDoor.CbC
open Go.RowKit Go.Proofs.YtnmjelcicbfjdaaDoorW.PrintWords Go.Proofs.YtnmjelcicbfjdaaDoorW.PrintLast Go.Proofs.YtnmjelcicbfjdaaDoorW.PrintMore Go.Proofs.YtnmjelcicbfjdaaDoor.Wire Go.Proofs.YtnmjelcicbfjdaaDoor.Crc Go.Proofs.YtnmjelcicbfjdaaDoor.PCb
set_option linter.unusedVariables false
set_option linter.unusedSimpArgs false
theorem cw64 {n : Int} (h0 : -9223372036854775808 ≤ n) (h1 : n ≤ 9223372036854775807) : wrap64 n = n := by
  unfold wrap64
  omega
theorem one_same (s : Nat) : crc_step.one s = one s := rfl
theorem iter_same (k s : Nat) : crc_step.iter k s = iter k s := by
  induction k with
  | zero => rfl
  | succ k ih => simp only [crc_step.iter, iter, ih, one_same]
theorem st_same (s c : Nat) : crc_step.st s c = st s c := iter_same 8 _
section
attribute [local irreducible] crc_step.st st
theorem fold_same (l : List Int) : ∀ s, crc_More.fold s l = fold s l := by
  induction l with
  | nil => intro s; rfl
  | cons c t ih =>
    intro s
    rw [show crc_More.fold s (c :: t) = crc_More.fold (crc_step.st s c.toNat) t from rfl, show fold s (c :: t) = fold (st s c.toNat) t from rfl, st_same]
    exact ih _
end
theorem opened_iff {l : List Int} {n : Nat} (hn : l.length = n + 4) : opened l ↔ l.drop n = put (sum (l.take n)) := by
  unfold opened
  rw [show l.length - 4 = n by omega]
  exact ⟨fun h => h.2, fun h => ⟨by omega, h⟩⟩
theorem more {l : List Int} (hb : Bytes l) (a : Nat) (ha : a < 4294967296) : crc_More.f (a : Int) l = some ((4294967295 - fold (4294967295 - a) l : Nat) : Int) := by
  unfold crc_More.f
  rw [if_pos ⟨⟨by omega, by omega⟩, hb⟩, fold_same, Int.toNat_natCast]
theorem csum {l : List Int} (hb : Bytes l) : crc_Sum.f l = some (sum l : Int) := by
  unfold crc_Sum.f
  have h := more hb 0 (by decide)
  rw [show ((0 : Nat) : Int) = 0 from rfl] at h
  rw [h]
  rfl
theorem shr8 (x i : Nat) (hi : i ≤ 3) : shr .u32 (x : Int) (wrap64 (8 * (i : Int))) % 256 = ((x / 256 ^ i % 256 : Nat) : Int) := by
  rw [cw64 (by omega) (by omega)]
  unfold shr
  rw [show ((8 * (i : Int)).toNat) = 8 * i by omega, Nat.min_eq_left (show 8 * i ≤ IntKind.u32.bits by simp [IntKind.bits]; omega), show (256 : Nat) ^ i = 2 ^ (8 * i) by rw [Nat.pow_mul]]
  simp
theorem put_get (x i : Nat) (hi : i < 4) : (put x).getD i 0 = ((x / 256 ^ i % 256 : Nat) : Int) := by
  have e : i = 0 ∨ i = 1 ∨ i = 2 ∨ i = 3 := by omega
  rcases e with rfl | rfl | rfl | rfl <;> simp [put]
/-- What is told of bytes that are opened. -/
def openS (l : List Int) : List Int × Bool := if opened l then (l.take (l.length - 4), true) else ([], false)
theorem rsum_bits (l : List Int) (i : Nat) : ∀ d k j (x s : Nat), 8 - j = d → j ≤ 8 → x = iter j s → s < 4294967296 → d < k → ∃ k', k' + d + 1 = k ∧
    deckleref02_Sum.l1 k l (x : Int) (i : Int) (j : Int) = deckleref02_Sum.l0 k' l ((iter 8 s : Nat) : Int) (wrap64 ((i : Int) + 1)) := by
  intro d
  induction d with
  | zero =>
    intro k j x s hd hj hx hs hk
    obtain rfl : j = 8 := by omega
    obtain ⟨k, rfl⟩ : ∃ m, k = m + 1 := ⟨k - 1, by omega⟩
    refine ⟨k, rfl, ?_⟩
    simp only [deckleref02_Sum.l1]
    rw [if_neg (by omega), hx]
  | succ d ih =>
    intro k j x s hd hj hx hs hk
    obtain ⟨k, rfl⟩ : ∃ m, k = m + 1 := ⟨k - 1, by omega⟩
    have hlt : x < 4294967296 := by rw [hx]; exact iter_lt hs j
    have e1 : Int.tmod (x : Int) 2 = ((x % 2 : Nat) : Int) := by rw [Int.tmod_eq_emod_of_nonneg (by omega)]; rfl
    have e2 : Int.tdiv (x : Int) 2 = ((x / 2 : Nat) : Int) := by rw [Int.tdiv_eq_ediv_of_nonneg (by omega)]; rfl
    obtain ⟨k', hk', he⟩ := ih k (j + 1) (one x) s (by omega) (by omega) (by rw [hx]; rfl) hs (by omega)
    refine ⟨k', by omega, ?_⟩
    simp only [deckleref02_Sum.l1]
    rw [if_pos (by omega), e1, e2, cw64 (n := (j : Int) + 1) (by omega) (by omega), show ((x / 2 : Nat) : Int) % 4294967296 = ((x / 2 : Nat) : Int) by omega, ← he]
    unfold one
    by_cases h : x % 2 = 1
    · rw [if_pos (by omega), if_pos h]
      have := u32_xor_nat (x / 2) 2197175160 (by omega) (by omega)
      rw [show ((2197175160 : Nat) : Int) = 2197175160 from rfl] at this
      rw [this]
      rfl
    · rw [if_neg (by omega), if_neg h]
      rfl
theorem rsum_loop (l : List Int) (hb : Bytes l) (hl : l.length ≤ 140737488351232) : ∀ d k i, l.length - i = d → i ≤ l.length → 10 * d < k →
    deckleref02_Sum.l0 k l ((fold 4294967295 (l.take i) : Nat) : Int) (i : Int) = some (sum l : Int) := by
  intro d
  induction d with
  | zero =>
    intro k i hd hi hk
    obtain rfl : i = l.length := by omega
    obtain ⟨k, rfl⟩ : ∃ m, k = m + 1 := ⟨k - 1, by omega⟩
    have hF := F_lt hb
    simp only [deckleref02_Sum.l0]
    rw [if_neg (by omega), List.take_length]
    have := u32_xor_nat 4294967295 (F l) (by omega) hF
    rw [not_is hF, show ((4294967295 : Nat) : Int) = 4294967295 from rfl] at this
    exact congrArg some this
  | succ d ih =>
    intro k i hd hi hk
    obtain ⟨k, rfl⟩ : ∃ m, k = m + 1 := ⟨k - 1, by omega⟩
    have hlt : i < l.length := by omega
    have hr : rd l (i : Int) = l[i] := by unfold rd; rw [Int.toNat_natCast, List.getD_eq_getElem?_getD, List.getElem?_eq_getElem hlt]; rfl
    have hc := hb _ (List.getElem_mem hlt)
    obtain ⟨c, hce⟩ := Int.eq_ofNat_of_zero_le hc.1
    have hf := fold_lt (l.take i) 4294967295 (hb.take i) (by decide)
    simp only [deckleref02_Sum.l0]
    rw [if_pos (by omega), if_pos (by omega), hr, hce, show (c : Int) % 4294967296 = c by omega, u32_xor_nat _ _ hf (by omega)]
    obtain ⟨k', hk', he⟩ := rsum_bits l i 8 k 0 (fold 4294967295 (l.take i) ^^^ c) (fold 4294967295 (l.take i) ^^^ c) (by omega) (by omega) rfl (x32 hf (by omega)) (by omega)
    rw [show ((0 : Nat) : Int) = 0 from rfl] at he
    rw [he, cw64 (by omega) (by omega)]
    have e : iter 8 (fold 4294967295 (l.take i) ^^^ c) = fold 4294967295 (l.take (i + 1)) := by
      rw [List.take_succ_eq_append_getElem hlt, fold_append, hce]
      rfl
    rw [e]
    exact ih k' (i + 1) (by omega) (by omega) (by omega)
theorem rsum {l : List Int} (hb : Bytes l) (hl : l.length ≤ 140737488351232) (k : Nat) (hk : 10 * l.length < k) : deckleref02_Sum.f k l = some (sum l : Int) := by
  unfold deckleref02_Sum.f
  exact rsum_loop l hb hl _ k 0 rfl (by omega) (by omega)
/-- Texts of bytes are alike just if these are. -/
theorem strs_inj {a b : List Int} (ha : Bytes a) (hb : Bytes b) (h : (strOfNums a).toList = (strOfNums b).toList) : a = b := Wire.str_inj ha hb h
end Go.Proofs.YtnmjelcicbfjdaaDoor.CbC
