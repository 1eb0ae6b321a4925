import Derived.Test.YtkngkjgapgnmbaaCrcSpec
import Derived.Test.YtkngkjgapgnmbaaPCrcPutsx1
namespace Go.Proofs.Ytkngkjgapgnmbaa.CrcPutsC
open Go.RowKit Go.Proofs.YtkngkjgapgnmbaaW.PrintWords Go.Proofs.YtkngkjgapgnmbaaW.PrintLast Go.Proofs.YtkngkjgapgnmbaaW.PrintMore Go.Proofs.Ytkngkjgapgnmbaa.Wire Go.Proofs.Ytkngkjgapgnmbaa.Crc Go.Proofs.Ytkngkjgapgnmbaa.PCrcPuts
set_option linter.unusedVariables false
set_option linter.unusedSimpArgs false
theorem cw64 {n : Int} (h0 : -9223372036854775808 ≤ n) (h1 : n ≤ 9223372036854775807) : wrap64 n = n := by
  unfold wrap64
  omega
theorem one_same (s : Nat) : crc_step.one s = one s := rfl
theorem iter_same (k s : Nat) : crc_step.iter k s = iter k s := by
  induction k with
  | zero => rfl
  | succ k ih => simp only [crc_step.iter, iter, ih, one_same]
theorem st_same (s c : Nat) : crc_step.st s c = st s c := iter_same 8 _
section
attribute [local irreducible] crc_step.st st
theorem fold_same (l : List Int) : ∀ s, crc_More.fold s l = fold s l := by
  induction l with
  | nil => intro s; rfl
  | cons c t ih =>
    intro s
    rw [show crc_More.fold s (c :: t) = crc_More.fold (crc_step.st s c.toNat) t from rfl, show fold s (c :: t) = fold (st s c.toNat) t from rfl, st_same]
    exact ih _
end
theorem opened_iff {l : List Int} {n : Nat} (hn : l.length = n + 4) : opened l ↔ l.drop n = put (sum (l.take n)) := by
  unfold opened
  rw [show l.length - 4 = n by omega]
  exact ⟨fun h => h.2, fun h => ⟨by omega, h⟩⟩
theorem more {l : List Int} (hb : Bytes l) (a : Nat) (ha : a < 4294967296) : crc_More.f (a : Int) l = some ((4294967295 - fold (4294967295 - a) l : Nat) : Int) := by
  unfold crc_More.f
  rw [if_pos ⟨⟨by omega, by omega⟩, hb⟩, fold_same, Int.toNat_natCast]
theorem csum {l : List Int} (hb : Bytes l) : crc_Sum.f l = some (sum l : Int) := by
  unfold crc_Sum.f
  have h := more hb 0 (by decide)
  rw [show ((0 : Nat) : Int) = 0 from rfl] at h
  rw [h]
  rfl
theorem shr8 (x i : Nat) (hi : i ≤ 3) : shr .u32 (x : Int) (wrap64 (8 * (i : Int))) % 256 = ((x / 256 ^ i % 256 : Nat) : Int) := by
  rw [cw64 (by omega) (by omega)]
  unfold shr
  rw [show ((8 * (i : Int)).toNat) = 8 * i by omega, Nat.min_eq_left (show 8 * i ≤ IntKind.u32.bits by simp [IntKind.bits]; omega), show (256 : Nat) ^ i = 2 ^ (8 * i) by rw [Nat.pow_mul]]
  simp
theorem put_get (x i : Nat) (hi : i < 4) : (put x).getD i 0 = ((x / 256 ^ i % 256 : Nat) : Int) := by
  have e : i = 0 ∨ i = 1 ∨ i = 2 ∨ i = 3 := by omega
  rcases e with rfl | rfl | rfl | rfl <;> simp [put]
theorem cput_loop (x : Nat) : ∀ d k i, 4 - i = d → i ≤ 4 → d < k → crc_Put.l0 k (x : Int) ((put x).take i ++ List.replicate (4 - i) 0) 4 (i : Int) = some (put x) := by
  intro d
  induction d with
  | zero =>
    intro k i hd hi hk
    obtain rfl : i = 4 := by omega
    obtain ⟨k, rfl⟩ : ∃ m, k = m + 1 := ⟨k - 1, by omega⟩
    simp only [crc_Put.l0]
    rw [if_neg (by omega)]
    simp [put]
  | succ d ih =>
    intro k i hd hi hk
    obtain ⟨k, rfl⟩ : ∃ m, k = m + 1 := ⟨k - 1, by omega⟩
    have hl : ((put x).take i ++ List.replicate (4 - i) (0 : Int)).length = 4 := by
      rw [List.length_append, List.length_take, put_len, List.length_replicate]
      omega
    simp only [crc_Put.l0, hl]
    rw [shr8 x i (by omega), if_pos (by omega), if_pos (by rw [cw64 (by omega) (by omega)]; omega), if_pos (by omega), if_pos (by omega), Int.toNat_natCast, cw64 (n := (i : Int) + 1) (by omega) (by omega)]
    have e : ((put x).take i ++ List.replicate (4 - i) (0 : Int)).set i ((x / 256 ^ i % 256 : Nat) : Int) = (put x).take (i + 1) ++ List.replicate (4 - (i + 1)) 0 := by
      rw [← put_get x i (by omega)]
      have e : i = 0 ∨ i = 1 ∨ i = 2 ∨ i = 3 := by omega
      rcases e with rfl | rfl | rfl | rfl <;> simp [put, List.replicate]
    rw [e]
    exact ih k (i + 1) (by omega) (by omega) (by omega)
theorem cput (x : Nat) (k : Nat) (hk : 5 ≤ k) : crc_Put.f k (x : Int) = some (put x) := by
  unfold crc_Put.f
  rw [if_pos (by decide)]
  simp only [Option.bind_some, List.length_replicate]
  have := cput_loop x 4 k 0 (by omega) (by omega) (by omega)
  simpa using this
/-- What is told of bytes that are opened. -/
def openS (l : List Int) : List Int × Bool := if opened l then (l.take (l.length - 4), true) else ([], false)
/-- Texts of bytes are alike just if these are. -/
theorem strs_inj {a b : List Int} (ha : Bytes a) (hb : Bytes b) (h : (strOfNums a).toList = (strOfNums b).toList) : a = b := Wire.str_inj ha hb h
end Go.Proofs.Ytkngkjgapgnmbaa.CrcPutsC
