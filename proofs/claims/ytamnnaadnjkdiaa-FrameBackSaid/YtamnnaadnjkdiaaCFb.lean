import Derived.Test.YtamnnaadnjkdiaaCrcSpec
import Derived.Test.YtamnnaadnjkdiaaPFbx1
import Derived.Test.YtamnnaadnjkdiaaPFbx2
import Derived.Test.YtamnnaadnjkdiaaPFbx3
namespace Go.Proofs.Ytamnnaadnjkdiaa.FbC
open Go.RowKit Go.Proofs.YtamnnaadnjkdiaaW.PrintWords Go.Proofs.YtamnnaadnjkdiaaW.PrintLast Go.Proofs.YtamnnaadnjkdiaaW.PrintMore Go.Proofs.Ytamnnaadnjkdiaa.Wire Go.Proofs.Ytamnnaadnjkdiaa.Crc Go.Proofs.Ytamnnaadnjkdiaa.PFb
set_option linter.unusedVariables false
set_option linter.unusedSimpArgs false
theorem cw64 {n : Int} (h0 : -9223372036854775808 ≤ n) (h1 : n ≤ 9223372036854775807) : wrap64 n = n := by
  unfold wrap64
  omega
theorem one_same (s : Nat) : crc_step.one s = one s := rfl
theorem iter_same (k s : Nat) : crc_step.iter k s = iter k s := by
  induction k with
  | zero => rfl
  | succ k ih => simp only [crc_step.iter, iter, ih, one_same]
theorem st_same (s c : Nat) : crc_step.st s c = st s c := iter_same 8 _
section
attribute [local irreducible] crc_step.st st
theorem fold_same (l : List Int) : ∀ s, crc_More.fold s l = fold s l := by
  induction l with
  | nil => intro s; rfl
  | cons c t ih =>
    intro s
    rw [show crc_More.fold s (c :: t) = crc_More.fold (crc_step.st s c.toNat) t from rfl, show fold s (c :: t) = fold (st s c.toNat) t from rfl, st_same]
    exact ih _
end
theorem opened_iff {l : List Int} {n : Nat} (hn : l.length = n + 4) : opened l ↔ l.drop n = put (sum (l.take n)) := by
  unfold opened
  rw [show l.length - 4 = n by omega]
  exact ⟨fun h => h.2, fun h => ⟨by omega, h⟩⟩
theorem more {l : List Int} (hb : Bytes l) (a : Nat) (ha : a < 4294967296) : crc_More.f (a : Int) l = some ((4294967295 - fold (4294967295 - a) l : Nat) : Int) := by
  unfold crc_More.f
  rw [if_pos ⟨⟨by omega, by omega⟩, hb⟩, fold_same, Int.toNat_natCast]
theorem csum {l : List Int} (hb : Bytes l) : crc_Sum.f l = some (sum l : Int) := by
  unfold crc_Sum.f
  have h := more hb 0 (by decide)
  rw [show ((0 : Nat) : Int) = 0 from rfl] at h
  rw [h]
  rfl
theorem shr8 (x i : Nat) (hi : i ≤ 3) : shr .u32 (x : Int) (wrap64 (8 * (i : Int))) % 256 = ((x / 256 ^ i % 256 : Nat) : Int) := by
  rw [cw64 (by omega) (by omega)]
  unfold shr
  rw [show ((8 * (i : Int)).toNat) = 8 * i by omega, Nat.min_eq_left (show 8 * i ≤ IntKind.u32.bits by simp [IntKind.bits]; omega), show (256 : Nat) ^ i = 2 ^ (8 * i) by rw [Nat.pow_mul]]
  simp
theorem put_get (x i : Nat) (hi : i < 4) : (put x).getD i 0 = ((x / 256 ^ i % 256 : Nat) : Int) := by
  have e : i = 0 ∨ i = 1 ∨ i = 2 ∨ i = 3 := by omega
  rcases e with rfl | rfl | rfl | rfl <;> simp [put]
theorem cput_loop (x : Nat) : ∀ d k i, 4 - i = d → i ≤ 4 → d < k → crc_Put.l0 k (x : Int) ((put x).take i ++ List.replicate (4 - i) 0) 4 (i : Int) = some (put x) := by
  intro d
  induction d with
  | zero =>
    intro k i hd hi hk
    obtain rfl : i = 4 := by omega
    obtain ⟨k, rfl⟩ : ∃ m, k = m + 1 := ⟨k - 1, by omega⟩
    simp only [crc_Put.l0]
    rw [if_neg (by omega)]
    simp [put]
  | succ d ih =>
    intro k i hd hi hk
    obtain ⟨k, rfl⟩ : ∃ m, k = m + 1 := ⟨k - 1, by omega⟩
    have hl : ((put x).take i ++ List.replicate (4 - i) (0 : Int)).length = 4 := by
      rw [List.length_append, List.length_take, put_len, List.length_replicate]
      omega
    simp only [crc_Put.l0, hl]
    rw [shr8 x i (by omega), if_pos (by omega), if_pos (by rw [cw64 (by omega) (by omega)]; omega), if_pos (by omega), if_pos (by omega), Int.toNat_natCast, cw64 (n := (i : Int) + 1) (by omega) (by omega)]
    have e : ((put x).take i ++ List.replicate (4 - i) (0 : Int)).set i ((x / 256 ^ i % 256 : Nat) : Int) = (put x).take (i + 1) ++ List.replicate (4 - (i + 1)) 0 := by
      rw [← put_get x i (by omega)]
      have e : i = 0 ∨ i = 1 ∨ i = 2 ∨ i = 3 := by omega
      rcases e with rfl | rfl | rfl | rfl <;> simp [put, List.replicate]
    rw [e]
    exact ih k (i + 1) (by omega) (by omega) (by omega)
theorem cput (x : Nat) (k : Nat) (hk : 5 ≤ k) : crc_Put.f k (x : Int) = some (put x) := by
  unfold crc_Put.f
  rw [if_pos (by decide)]
  simp only [Option.bind_some, List.length_replicate]
  have := cput_loop x 4 k 0 (by omega) (by omega) (by omega)
  simpa using this
theorem cseal {l : List Int} (hb : Bytes l) (hl : l.length ≤ 140737488351232) (k : Nat) (hk : 5 ≤ k) : crc_Seal.f k l = some (sealed l) := by
  unfold crc_Seal.f
  simp only [Option.bind_some, List.nil_append, List.length_nil]
  rw [if_pos (by omega), csum hb]
  simp only [Option.bind_some]
  rw [cput _ k hk]
  simp only [Option.bind_some]
  rw [if_pos (by rw [put_len]; omega)]
  rfl
/-- What is told of bytes that are opened. -/
def openS (l : List Int) : List Int × Bool := if opened l then (l.take (l.length - 4), true) else ([], false)
theorem copen_loop (l : List Int) (s n : Nat) (hn : l.length = n + 4) (hl : l.length ≤ 140737488351232) : ∀ d k i, 4 - i = d → i ≤ 4 → (∀ j, j < i → (l.drop n).getD j 0 = (put s).getD j 0) → d + 1 < k →
    crc_Open.l0 k l (n : Int) (s : Int) (l.drop n) (((l.drop n).length : Nat) : Int) (i : Int) = some (if l.drop n = put s then (l.take n, true) else ([], false)) := by
  have hdl : (l.drop n).length = 4 := by rw [List.length_drop]; omega
  intro d
  induction d with
  | zero =>
    intro k i hd hi hj hk
    obtain rfl : i = 4 := by omega
    obtain ⟨k, rfl⟩ : ∃ m, k = m + 1 := ⟨k - 1, by omega⟩
    have e : l.drop n = put s := by
      apply List.ext_getElem
      · rw [hdl, put_len]
      · intro j h1 h2
        have := hj j (by rw [put_len] at h2; exact h2)
        rw [List.getD_eq_getElem?_getD, List.getD_eq_getElem?_getD, List.getElem?_eq_getElem h1, List.getElem?_eq_getElem h2] at this
        exact this
    simp only [crc_Open.l0, hdl]
    rw [if_neg (by omega), if_pos e]
    simp only [Option.bind_some, List.nil_append, List.length_nil, Int.toNat_natCast]
    rw [if_pos (by omega), if_pos (by omega), if_pos (by rw [List.length_take]; omega)]
  | succ d ih =>
    intro k i hd hi hj hk
    obtain ⟨k, rfl⟩ : ∃ m, k = m + 1 := ⟨k - 1, by omega⟩
    simp only [crc_Open.l0]
    rw [hdl, if_pos (by omega), if_pos (by omega), if_pos (by omega), shr8 s i (by omega), if_pos (by rw [cw64 (by omega) (by omega)]; omega)]
    have hr : rd (l.drop n) (i : Int) = (l.drop n).getD i 0 := by unfold rd; rw [Int.toNat_natCast]
    rw [hr, ← put_get s i (by omega)]
    by_cases h : (l.drop n).getD i 0 = (put s).getD i 0
    · rw [if_pos h, cw64 (by omega) (by omega)]
      have := ih k (i + 1) (by omega) (by omega) (fun j hlt => by
        by_cases e : j = i
        · subst e
          exact h
        · exact hj j (by omega)) (by omega)
      rw [hdl] at this
      exact this
    · rw [if_neg h, if_neg (fun e => h (by rw [e]))]
theorem copen {l : List Int} (hb : Bytes l) (hl : l.length ≤ 140737488351232) (k : Nat) (hk : 7 ≤ k) : crc_Open.f k l = some (openS l) := by
  unfold crc_Open.f openS
  rw [cw64 (n := (l.length : Int) - 4) (by omega) (by omega)]
  by_cases h4 : (l.length : Int) - 4 < 0
  · rw [if_pos h4, if_neg (fun h => by have := h.1; omega)]
  · rw [if_neg h4, if_pos (by omega), if_pos (by omega)]
    obtain ⟨n, hn⟩ : ∃ n, l.length = n + 4 := ⟨l.length - 4, by omega⟩
    rw [show ((l.length : Int) - 4) = (n : Int) by omega, Int.toNat_natCast, csum (hb.take n)]
    simp only [Option.bind_some]
    have hc := copen_loop l (sum (l.take n)) n hn hl 4 k 0 (by omega) (by omega) (fun j h => by omega) (by omega)
    rw [show ((0 : Nat) : Int) = 0 from rfl] at hc
    rw [hc]
    rw [show l.length - 4 = n by omega]
    by_cases h : l.drop n = put (sum (l.take n))
    · rw [if_pos h, if_pos ((opened_iff hn).2 h)]
    · rw [if_neg h, if_neg (fun z => h ((opened_iff hn).1 z))]
/-- Texts of bytes are alike just if these are. -/
theorem strs_inj {a b : List Int} (ha : Bytes a) (hb : Bytes b) (h : (strOfNums a).toList = (strOfNums b).toList) : a = b := Wire.str_inj ha hb h
end Go.Proofs.Ytamnnaadnjkdiaa.FbC
