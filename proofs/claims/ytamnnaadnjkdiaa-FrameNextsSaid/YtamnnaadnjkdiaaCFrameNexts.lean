import Derived.Test.YtamnnaadnjkdiaaCrcSpec
import Derived.Test.YtamnnaadnjkdiaaPFrameNextsx1
import Derived.Test.YtamnnaadnjkdiaaPFrameNextsx2
import Derived.Test.YtamnnaadnjkdiaaPFrameNextsx3
import Derived.Test.YtamnnaadnjkdiaaPFrameNextsx4
import Derived.Test.YtamnnaadnjkdiaaPFrameNextsx5
import Derived.Test.YtamnnaadnjkdiaaPFrameNextsx6
namespace Go.Proofs.Ytamnnaadnjkdiaa.FrameNextsC
open Go.RowKit Go.Proofs.YtamnnaadnjkdiaaW.PrintWords Go.Proofs.YtamnnaadnjkdiaaW.PrintLast Go.Proofs.YtamnnaadnjkdiaaW.PrintMore Go.Proofs.Ytamnnaadnjkdiaa.Wire Go.Proofs.Ytamnnaadnjkdiaa.Crc Go.Proofs.Ytamnnaadnjkdiaa.PFrameNexts
set_option linter.unusedVariables false
set_option linter.unusedSimpArgs false
theorem cw64 {n : Int} (h0 : -9223372036854775808 ≤ n) (h1 : n ≤ 9223372036854775807) : wrap64 n = n := by
  unfold wrap64
  omega
theorem one_same (s : Nat) : crc_step.one s = one s := rfl
theorem iter_same (k s : Nat) : crc_step.iter k s = iter k s := by
  induction k with
  | zero => rfl
  | succ k ih => simp only [crc_step.iter, iter, ih, one_same]
theorem st_same (s c : Nat) : crc_step.st s c = st s c := iter_same 8 _
section
attribute [local irreducible] crc_step.st st
theorem fold_same (l : List Int) : ∀ s, crc_More.fold s l = fold s l := by
  induction l with
  | nil => intro s; rfl
  | cons c t ih =>
    intro s
    rw [show crc_More.fold s (c :: t) = crc_More.fold (crc_step.st s c.toNat) t from rfl, show fold s (c :: t) = fold (st s c.toNat) t from rfl, st_same]
    exact ih _
end
theorem opened_iff {l : List Int} {n : Nat} (hn : l.length = n + 4) : opened l ↔ l.drop n = put (sum (l.take n)) := by
  unfold opened
  rw [show l.length - 4 = n by omega]
  exact ⟨fun h => h.2, fun h => ⟨by omega, h⟩⟩
theorem more {l : List Int} (hb : Bytes l) (a : Nat) (ha : a < 4294967296) : crc_More.f (a : Int) l = some ((4294967295 - fold (4294967295 - a) l : Nat) : Int) := by
  unfold crc_More.f
  rw [if_pos ⟨⟨by omega, by omega⟩, hb⟩, fold_same, Int.toNat_natCast]
theorem csum {l : List Int} (hb : Bytes l) : crc_Sum.f l = some (sum l : Int) := by
  unfold crc_Sum.f
  have h := more hb 0 (by decide)
  rw [show ((0 : Nat) : Int) = 0 from rfl] at h
  rw [h]
  rfl
theorem shr8 (x i : Nat) (hi : i ≤ 3) : shr .u32 (x : Int) (wrap64 (8 * (i : Int))) % 256 = ((x / 256 ^ i % 256 : Nat) : Int) := by
  rw [cw64 (by omega) (by omega)]
  unfold shr
  rw [show ((8 * (i : Int)).toNat) = 8 * i by omega, Nat.min_eq_left (show 8 * i ≤ IntKind.u32.bits by simp [IntKind.bits]; omega), show (256 : Nat) ^ i = 2 ^ (8 * i) by rw [Nat.pow_mul]]
  simp
theorem put_get (x i : Nat) (hi : i < 4) : (put x).getD i 0 = ((x / 256 ^ i % 256 : Nat) : Int) := by
  have e : i = 0 ∨ i = 1 ∨ i = 2 ∨ i = 3 := by omega
  rcases e with rfl | rfl | rfl | rfl <;> simp [put]
theorem cput_loop (x : Nat) : ∀ d k i, 4 - i = d → i ≤ 4 → d < k → crc_Put.l0 k (x : Int) ((put x).take i ++ List.replicate (4 - i) 0) 4 (i : Int) = some (put x) := by
  intro d
  induction d with
  | zero =>
    intro k i hd hi hk
    obtain rfl : i = 4 := by omega
    obtain ⟨k, rfl⟩ : ∃ m, k = m + 1 := ⟨k - 1, by omega⟩
    simp only [crc_Put.l0]
    rw [if_neg (by omega)]
    simp [put]
  | succ d ih =>
    intro k i hd hi hk
    obtain ⟨k, rfl⟩ : ∃ m, k = m + 1 := ⟨k - 1, by omega⟩
    have hl : ((put x).take i ++ List.replicate (4 - i) (0 : Int)).length = 4 := by
      rw [List.length_append, List.length_take, put_len, List.length_replicate]
      omega
    simp only [crc_Put.l0, hl]
    rw [shr8 x i (by omega), if_pos (by omega), if_pos (by rw [cw64 (by omega) (by omega)]; omega), if_pos (by omega), if_pos (by omega), Int.toNat_natCast, cw64 (n := (i : Int) + 1) (by omega) (by omega)]
    have e : ((put x).take i ++ List.replicate (4 - i) (0 : Int)).set i ((x / 256 ^ i % 256 : Nat) : Int) = (put x).take (i + 1) ++ List.replicate (4 - (i + 1)) 0 := by
      rw [← put_get x i (by omega)]
      have e : i = 0 ∨ i = 1 ∨ i = 2 ∨ i = 3 := by omega
      rcases e with rfl | rfl | rfl | rfl <;> simp [put, List.replicate]
    rw [e]
    exact ih k (i + 1) (by omega) (by omega) (by omega)
theorem cput (x : Nat) (k : Nat) (hk : 5 ≤ k) : crc_Put.f k (x : Int) = some (put x) := by
  unfold crc_Put.f
  rw [if_pos (by decide)]
  simp only [Option.bind_some, List.length_replicate]
  have := cput_loop x 4 k 0 (by omega) (by omega) (by omega)
  simpa using this
theorem cseal {l : List Int} (hb : Bytes l) (hl : l.length ≤ 140737488351232) (k : Nat) (hk : 5 ≤ k) : crc_Seal.f k l = some (sealed l) := by
  unfold crc_Seal.f
  simp only [Option.bind_some, List.nil_append, List.length_nil]
  rw [if_pos (by omega), csum hb]
  simp only [Option.bind_some]
  rw [cput _ k hk]
  simp only [Option.bind_some]
  rw [if_pos (by rw [put_len]; omega)]
  rfl
/-- What is told of bytes that are opened. -/
def openS (l : List Int) : List Int × Bool := if opened l then (l.take (l.length - 4), true) else ([], false)
theorem copen_loop (l : List Int) (s n : Nat) (hn : l.length = n + 4) (hl : l.length ≤ 140737488351232) : ∀ d k i, 4 - i = d → i ≤ 4 → (∀ j, j < i → (l.drop n).getD j 0 = (put s).getD j 0) → d + 1 < k →
    crc_Open.l0 k l (n : Int) (s : Int) (l.drop n) (((l.drop n).length : Nat) : Int) (i : Int) = some (if l.drop n = put s then (l.take n, true) else ([], false)) := by
  have hdl : (l.drop n).length = 4 := by rw [List.length_drop]; omega
  intro d
  induction d with
  | zero =>
    intro k i hd hi hj hk
    obtain rfl : i = 4 := by omega
    obtain ⟨k, rfl⟩ : ∃ m, k = m + 1 := ⟨k - 1, by omega⟩
    have e : l.drop n = put s := by
      apply List.ext_getElem
      · rw [hdl, put_len]
      · intro j h1 h2
        have := hj j (by rw [put_len] at h2; exact h2)
        rw [List.getD_eq_getElem?_getD, List.getD_eq_getElem?_getD, List.getElem?_eq_getElem h1, List.getElem?_eq_getElem h2] at this
        exact this
    simp only [crc_Open.l0, hdl]
    rw [if_neg (by omega), if_pos e]
    simp only [Option.bind_some, List.nil_append, List.length_nil, Int.toNat_natCast]
    rw [if_pos (by omega), if_pos (by omega), if_pos (by rw [List.length_take]; omega)]
  | succ d ih =>
    intro k i hd hi hj hk
    obtain ⟨k, rfl⟩ : ∃ m, k = m + 1 := ⟨k - 1, by omega⟩
    simp only [crc_Open.l0]
    rw [hdl, if_pos (by omega), if_pos (by omega), if_pos (by omega), shr8 s i (by omega), if_pos (by rw [cw64 (by omega) (by omega)]; omega)]
    have hr : rd (l.drop n) (i : Int) = (l.drop n).getD i 0 := by unfold rd; rw [Int.toNat_natCast]
    rw [hr, ← put_get s i (by omega)]
    by_cases h : (l.drop n).getD i 0 = (put s).getD i 0
    · rw [if_pos h, cw64 (by omega) (by omega)]
      have := ih k (i + 1) (by omega) (by omega) (fun j hlt => by
        by_cases e : j = i
        · subst e
          exact h
        · exact hj j (by omega)) (by omega)
      rw [hdl] at this
      exact this
    · rw [if_neg h, if_neg (fun e => h (by rw [e]))]
theorem copen {l : List Int} (hb : Bytes l) (hl : l.length ≤ 140737488351232) (k : Nat) (hk : 7 ≤ k) : crc_Open.f k l = some (openS l) := by
  unfold crc_Open.f openS
  rw [cw64 (n := (l.length : Int) - 4) (by omega) (by omega)]
  by_cases h4 : (l.length : Int) - 4 < 0
  · rw [if_pos h4, if_neg (fun h => by have := h.1; omega)]
  · rw [if_neg h4, if_pos (by omega), if_pos (by omega)]
    obtain ⟨n, hn⟩ : ∃ n, l.length = n + 4 := ⟨l.length - 4, by omega⟩
    rw [show ((l.length : Int) - 4) = (n : Int) by omega, Int.toNat_natCast, csum (hb.take n)]
    simp only [Option.bind_some]
    have hc := copen_loop l (sum (l.take n)) n hn hl 4 k 0 (by omega) (by omega) (fun j h => by omega) (by omega)
    rw [show ((0 : Nat) : Int) = 0 from rfl] at hc
    rw [hc]
    rw [show l.length - 4 = n by omega]
    by_cases h : l.drop n = put (sum (l.take n))
    · rw [if_pos h, if_pos ((opened_iff hn).2 h)]
    · rw [if_neg h, if_neg (fun z => h ((opened_iff hn).1 z))]
theorem rsum_bits (l : List Int) (i : Nat) : ∀ d k j (x s : Nat), 8 - j = d → j ≤ 8 → x = iter j s → s < 4294967296 → d < k → ∃ k', k' + d + 1 = k ∧
    deckleref02_Sum.l1 k l (x : Int) (i : Int) (j : Int) = deckleref02_Sum.l0 k' l ((iter 8 s : Nat) : Int) (wrap64 ((i : Int) + 1)) := by
  intro d
  induction d with
  | zero =>
    intro k j x s hd hj hx hs hk
    obtain rfl : j = 8 := by omega
    obtain ⟨k, rfl⟩ : ∃ m, k = m + 1 := ⟨k - 1, by omega⟩
    refine ⟨k, rfl, ?_⟩
    simp only [deckleref02_Sum.l1]
    rw [if_neg (by omega), hx]
  | succ d ih =>
    intro k j x s hd hj hx hs hk
    obtain ⟨k, rfl⟩ : ∃ m, k = m + 1 := ⟨k - 1, by omega⟩
    have hlt : x < 4294967296 := by rw [hx]; exact iter_lt hs j
    have e1 : Int.tmod (x : Int) 2 = ((x % 2 : Nat) : Int) := by rw [Int.tmod_eq_emod_of_nonneg (by omega)]; rfl
    have e2 : Int.tdiv (x : Int) 2 = ((x / 2 : Nat) : Int) := by rw [Int.tdiv_eq_ediv_of_nonneg (by omega)]; rfl
    obtain ⟨k', hk', he⟩ := ih k (j + 1) (one x) s (by omega) (by omega) (by rw [hx]; rfl) hs (by omega)
    refine ⟨k', by omega, ?_⟩
    simp only [deckleref02_Sum.l1]
    rw [if_pos (by omega), e1, e2, cw64 (n := (j : Int) + 1) (by omega) (by omega), show ((x / 2 : Nat) : Int) % 4294967296 = ((x / 2 : Nat) : Int) by omega, ← he]
    unfold one
    by_cases h : x % 2 = 1
    · rw [if_pos (by omega), if_pos h]
      have := u32_xor_nat (x / 2) 2197175160 (by omega) (by omega)
      rw [show ((2197175160 : Nat) : Int) = 2197175160 from rfl] at this
      rw [this]
      rfl
    · rw [if_neg (by omega), if_neg h]
      rfl
theorem rsum_loop (l : List Int) (hb : Bytes l) (hl : l.length ≤ 140737488351232) : ∀ d k i, l.length - i = d → i ≤ l.length → 10 * d < k →
    deckleref02_Sum.l0 k l ((fold 4294967295 (l.take i) : Nat) : Int) (i : Int) = some (sum l : Int) := by
  intro d
  induction d with
  | zero =>
    intro k i hd hi hk
    obtain rfl : i = l.length := by omega
    obtain ⟨k, rfl⟩ : ∃ m, k = m + 1 := ⟨k - 1, by omega⟩
    have hF := F_lt hb
    simp only [deckleref02_Sum.l0]
    rw [if_neg (by omega), List.take_length]
    have := u32_xor_nat 4294967295 (F l) (by omega) hF
    rw [not_is hF, show ((4294967295 : Nat) : Int) = 4294967295 from rfl] at this
    exact congrArg some this
  | succ d ih =>
    intro k i hd hi hk
    obtain ⟨k, rfl⟩ : ∃ m, k = m + 1 := ⟨k - 1, by omega⟩
    have hlt : i < l.length := by omega
    have hr : rd l (i : Int) = l[i] := by unfold rd; rw [Int.toNat_natCast, List.getD_eq_getElem?_getD, List.getElem?_eq_getElem hlt]; rfl
    have hc := hb _ (List.getElem_mem hlt)
    obtain ⟨c, hce⟩ := Int.eq_ofNat_of_zero_le hc.1
    have hf := fold_lt (l.take i) 4294967295 (hb.take i) (by decide)
    simp only [deckleref02_Sum.l0]
    rw [if_pos (by omega), if_pos (by omega), hr, hce, show (c : Int) % 4294967296 = c by omega, u32_xor_nat _ _ hf (by omega)]
    obtain ⟨k', hk', he⟩ := rsum_bits l i 8 k 0 (fold 4294967295 (l.take i) ^^^ c) (fold 4294967295 (l.take i) ^^^ c) (by omega) (by omega) rfl (x32 hf (by omega)) (by omega)
    rw [show ((0 : Nat) : Int) = 0 from rfl] at he
    rw [he, cw64 (by omega) (by omega)]
    have e : iter 8 (fold 4294967295 (l.take i) ^^^ c) = fold 4294967295 (l.take (i + 1)) := by
      rw [List.take_succ_eq_append_getElem hlt, fold_append, hce]
      rfl
    rw [e]
    exact ih k' (i + 1) (by omega) (by omega) (by omega)
theorem rsum {l : List Int} (hb : Bytes l) (hl : l.length ≤ 140737488351232) (k : Nat) (hk : 10 * l.length < k) : deckleref02_Sum.f k l = some (sum l : Int) := by
  unfold deckleref02_Sum.f
  exact rsum_loop l hb hl _ k 0 rfl (by omega) (by omega)
theorem rput (x : Nat) (hx : x < 4294967296) : deckleref02_Put.f (x : Int) = some (put x) := by
  unfold deckleref02_Put.f put
  have e0 : Int.tmod (x : Int) 256 = (x : Int) % 256 := Int.tmod_eq_emod_of_nonneg (by omega)
  have e1 : Int.tdiv (x : Int) 256 = (x : Int) / 256 := Int.tdiv_eq_ediv_of_nonneg (by omega)
  have e2 : Int.tdiv (x : Int) 65536 = (x : Int) / 65536 := Int.tdiv_eq_ediv_of_nonneg (by omega)
  have e3 : Int.tdiv (x : Int) 16777216 = (x : Int) / 16777216 := Int.tdiv_eq_ediv_of_nonneg (by omega)
  rw [e0, e1, e2, e3]
  simp only [Option.some.injEq, List.cons.injEq, and_true]
  refine ⟨by omega, by omega, by omega, by omega⟩
/-- Texts of bytes are alike just if these are. -/
theorem strs_inj {a b : List Int} (ha : Bytes a) (hb : Bytes b) (h : (strOfNums a).toList = (strOfNums b).toList) : a = b := Wire.str_inj ha hb h
theorem ropen {l : List Int} (hb : Bytes l) (hl : l.length ≤ 140737488351232) (k : Nat) (hk : 10 * l.length < k) : deckleref02_Open.f k l = some (openS l) := by
  unfold deckleref02_Open.f openS
  rw [cw64 (n := (l.length : Int) - 4) (by omega) (by omega)]
  by_cases h4 : (l.length : Int) - 4 < 0
  · rw [if_pos h4, if_neg (fun h => by have := h.1; omega)]
  · rw [if_neg h4, if_pos (by omega), if_pos (by omega)]
    obtain ⟨n, hn⟩ : ∃ n, l.length = n + 4 := ⟨l.length - 4, by omega⟩
    rw [show ((l.length : Int) - 4) = (n : Int) by omega, Int.toNat_natCast, rsum (hb.take n) (by rw [List.length_take]; omega) k (by rw [List.length_take]; omega)]
    simp only [Option.bind_some]
    rw [rput _ (sum_lt _)]
    simp only [Option.bind_some, List.nil_append, List.length_nil]
    rw [show l.length - 4 = n by omega]
    by_cases h : l.drop n = put (sum (l.take n))
    · rw [if_pos (by rw [h]), if_pos (by rw [List.length_take]; omega), if_pos ((opened_iff hn).2 h)]
    · rw [if_neg (fun e => h (strs_inj (put_bytes _) (hb.drop n) e).symm), if_neg (fun z => h ((opened_iff hn).1 z))]
end Go.Proofs.Ytamnnaadnjkdiaa.FrameNextsC
