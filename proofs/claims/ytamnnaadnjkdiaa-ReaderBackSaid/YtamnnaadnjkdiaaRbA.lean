import Derived.Test.YtamnnaadnjkdiaaRdG
import Derived.Test.YtamnnaadnjkdiaaFrameSpec
import Derived.Test.YtamnnaadnjkdiaaRowB
import Derived.Deep.LoopGhost
/-! ReaderBack: numbers and rows of bytes, one behind the other: the pieces, their places; the closure's state. -/
namespace Go.Proofs.Ytamnnaadnjkdiaa.Rb
open Go.RowKit Go.Proofs.YtamnnaadnjkdiaaW.PrintWords Go.Proofs.YtamnnaadnjkdiaaW.PrintLast Go.Proofs.YtamnnaadnjkdiaaW.PrintMore Go.Proofs.Ytamnnaadnjkdiaa.Wire Go.Proofs.Ytamnnaadnjkdiaa.Frame Go.Proofs.Ytamnnaadnjkdiaa.Rd
set_option linter.unusedVariables false
set_option linter.unusedSimpArgs false
set_option maxRecDepth 100000
def num (xs : List Int) (i : Nat) : Nat := (zigS (rd xs (i : Int))).toNat
def bys (ys : List (List Int)) (i : Nat) : List Int := ys.getD i []
def piece (xs : List Int) (ys : List (List Int)) (i : Nat) : List Int := if i < xs.length then uv (num xs i) else uv (bys ys (i - xs.length)).length ++ bys ys (i - xs.length)
def cat (xs : List Int) (ys : List (List Int)) : Nat → List Int
  | 0 => []
  | n + 1 => cat xs ys n ++ piece xs ys n
def pos (xs : List Int) (ys : List (List Int)) (n : Nat) : Nat := (cat xs ys n).length
theorem pos_succ (xs : List Int) (ys : List (List Int)) (n : Nat) : pos xs ys (n + 1) = pos xs ys n + (piece xs ys n).length := by unfold pos; rw [cat, List.length_append]
theorem piece_num {xs : List Int} {ys : List (List Int)} {i : Nat} (h : i < xs.length) : piece xs ys i = uv (num xs i) := if_pos h
theorem piece_bys {xs : List Int} (ys : List (List Int)) (i : Nat) : piece xs ys (xs.length + i) = uv (bys ys i).length ++ bys ys i := by unfold piece; rw [if_neg (by omega), show xs.length + i - xs.length = i by omega]
theorem piece_pos (xs : List Int) (ys : List (List Int)) (i : Nat) : 1 ≤ (piece xs ys i).length := by
  unfold piece
  split
  · exact (usz_spec _).1
  · rw [List.length_append]; have := (usz_spec (bys ys (i - xs.length)).length).1; unfold usz at this; omega
theorem cat_split (xs : List Int) (ys : List (List Int)) (i : Nat) : ∀ m, ∃ r, cat xs ys (i + m) = cat xs ys i ++ r
  | 0 => ⟨[], by simp⟩
  | m + 1 => by
    obtain ⟨r, hr⟩ := cat_split xs ys i m
    exact ⟨r ++ piece xs ys (i + m), by rw [← Nat.add_assoc, cat, hr, List.append_assoc]⟩
theorem pos_mono (xs : List Int) (ys : List (List Int)) {i j : Nat} (h : i ≤ j) : pos xs ys i ≤ pos xs ys j := by
  obtain ⟨r, hr⟩ := cat_split xs ys i (j - i)
  rw [show i + (j - i) = j by omega] at hr
  unfold pos; rw [hr, List.length_append]; omega
theorem cat_drop (xs : List Int) (ys : List (List Int)) {i n : Nat} (h : i < n) : ∃ r, (cat xs ys n).drop (pos xs ys i) = piece xs ys i ++ r := by
  obtain ⟨r, hr⟩ := cat_split xs ys (i + 1) (n - (i + 1))
  rw [show i + 1 + (n - (i + 1)) = n by omega, cat] at hr
  exact ⟨r, by rw [hr, List.append_assoc]; exact List.drop_left' rfl⟩
/-- The first K pieces stand in B, each at its place; the next one, if there is one, is cut. -/
structure Stands (B : List Int) (xs : List Int) (ys : List (List Int)) (K : Nat) : Prop where
  whole : ∀ i, i < K → ∃ r, B.drop (pos xs ys i) = piece xs ys i ++ r
  le : pos xs ys K ≤ B.length
  cut : K < xs.length + ys.length → ∃ m, m < (piece xs ys K).length ∧ B.drop (pos xs ys K) = (piece xs ys K).take m
  most : K ≤ xs.length + ys.length
theorem stands_all (xs : List Int) (ys : List (List Int)) : Stands (cat xs ys (xs.length + ys.length)) xs ys (xs.length + ys.length) :=
  ⟨fun i hi => cat_drop xs ys hi, Nat.le_refl _, fun h => absurd h (Nat.lt_irrefl _), Nat.le_refl _⟩
theorem stands_cut (xs : List Int) (ys : List (List Int)) {K : Nat} (h : xs.length + ys.length = K + 1) : Stands ((cat xs ys (K + 1)).take ((cat xs ys (K + 1)).length - 1)) xs ys K := by
  have hp := piece_pos xs ys K
  have hl : (cat xs ys (K + 1)).length = (cat xs ys K).length + (piece xs ys K).length := by rw [cat, List.length_append]
  have he : (cat xs ys (K + 1)).take ((cat xs ys (K + 1)).length - 1) = cat xs ys K ++ (piece xs ys K).take ((piece xs ys K).length - 1) := by
    rw [hl, cat, List.take_append, List.take_of_length_le (by omega)]
    congr 2
    omega
  refine ⟨fun i hi => ?_, ?_, fun _ => ⟨(piece xs ys K).length - 1, by omega, ?_⟩, by omega⟩
  · obtain ⟨r, hr⟩ := cat_drop xs ys hi
    refine ⟨r ++ (piece xs ys K).take ((piece xs ys K).length - 1), ?_⟩
    have hpm := pos_mono xs ys (Nat.le_of_lt hi)
    rw [he, List.drop_append, hr, List.append_assoc]
    congr 2
    rw [show pos xs ys i - (cat xs ys K).length = 0 by unfold pos at *; omega]; rfl
  · rw [he, List.length_append]; unfold pos; omega
  · rw [he]; exact List.drop_left' rfl
def Fine (xs : List Int) (ys : List (List Int)) : Prop := (∀ x ∈ xs, -9223372036854775808 ≤ x ∧ x ≤ 9223372036854775807) ∧ ∀ y ∈ ys, Bytes y
theorem Fine.rd_ {xs : List Int} {ys : List (List Int)} (h : Fine xs ys) (i : Nat) : -9223372036854775808 ≤ rd xs (i : Int) ∧ rd xs (i : Int) ≤ 9223372036854775807 := by
  unfold rd
  rw [Int.toNat_natCast, List.getD_eq_getElem?_getD]
  by_cases hi : i < xs.length
  · rw [List.getElem?_eq_getElem hi]; exact h.1 _ (List.getElem_mem hi)
  · rw [List.getElem?_eq_none (by omega)]; exact ⟨by decide, by decide⟩
theorem Fine.bys_ {xs : List Int} {ys : List (List Int)} (h : Fine xs ys) (i : Nat) : Bytes (bys ys i) := by
  unfold bys
  rw [List.getD_eq_getElem?_getD]
  by_cases hi : i < ys.length
  · rw [List.getElem?_eq_getElem hi]; exact h.2 _ (List.getElem_mem hi)
  · rw [List.getElem?_eq_none (by omega)]; intro c hc; cases hc
theorem num_lt {xs : List Int} {ys : List (List Int)} (h : Fine xs ys) (i : Nat) : num xs i < 18446744073709551616 := by
  have := zig_range (h.rd_ i).1 (h.rd_ i).2
  unfold num; omega
theorem zag_num {xs : List Int} {ys : List (List Int)} (h : Fine xs ys) (i : Nat) : zagS (num xs i : Int) = rd xs (i : Int) := by
  have := zig_range (h.rd_ i).1 (h.rd_ i).2
  unfold num
  rw [Int.toNat_of_nonneg this.1, zag_zig]
theorem piece_bytes {xs : List Int} {ys : List (List Int)} (h : Fine xs ys) (i : Nat) : Bytes (piece xs ys i) := by
  unfold piece
  split
  · exact Bytes.uv _
  · exact (Bytes.uv _).app (h.bys_ _)
theorem cat_bytes {xs : List Int} {ys : List (List Int)} (h : Fine xs ys) : ∀ n, Bytes (cat xs ys n)
  | 0 => fun c hc => by cases hc
  | n + 1 => (cat_bytes h n).app (piece_bytes h n)
theorem num_ok {B xs : List Int} {ys : List (List Int)} {K i : Nat} (hf : Fine xs ys) (h : Stands B xs ys K) (hi : i < K) (hx : i < xs.length) : gu (B.drop (pos xs ys i)) = ((num xs i : Int), ((usz (num xs i) : Nat) : Int), 0) ∧ pos xs ys (i + 1) = pos xs ys i + usz (num xs i) := by
  obtain ⟨r, hr⟩ := h.whole i hi
  rw [piece_num hx] at hr
  rw [hr, gu_uv (num_lt hf i), pos_succ, piece_num hx]
  exact ⟨rfl, rfl⟩
theorem num_cut {B xs : List Int} {ys : List (List Int)} {K : Nat} (hf : Fine xs ys) (h : Stands B xs ys K) (hx : K < xs.length) : gu (B.drop (pos xs ys K)) = (0, 0, 5) := by
  obtain ⟨m, hm, e⟩ := h.cut (by omega)
  rw [piece_num hx] at hm e
  rw [e]
  exact gu_short (num_lt hf K) hm
theorem bys_ok {B xs : List Int} {ys : List (List Int)} {K i : Nat} (h : Stands B xs ys K) (hi : xs.length + i < K) (hl : (bys ys i).length ≤ 300) : gb (B.drop (pos xs ys (xs.length + i))) 300 = (bys ys i, ((usz (bys ys i).length + (bys ys i).length : Nat) : Int), 0) ∧ pos xs ys (xs.length + (i + 1)) = pos xs ys (xs.length + i) + (usz (bys ys i).length + (bys ys i).length) := by
  obtain ⟨r, hr⟩ := h.whole _ hi
  rw [piece_bys, List.append_assoc] at hr
  rw [hr, gb_put (by omega) (by omega), ← Nat.add_assoc, pos_succ, piece_bys, List.length_append]
  exact ⟨rfl, rfl⟩
theorem bys_cut {B xs : List Int} {ys : List (List Int)} {i : Nat} (h : Stands B xs ys (xs.length + i)) (hi : i < ys.length) (hl : (bys ys i).length ≤ 300) : gb (B.drop (pos xs ys (xs.length + i))) 300 = ([], 0, 5) := by
  obtain ⟨m, hm, e⟩ := h.cut (by omega)
  rw [piece_bys] at hm e
  rw [List.length_append] at hm
  rw [e]
  exact gb_cut (by omega) (by omega) hm
theorem pos_small {xs : List Int} {ys : List (List Int)} (hf : Fine xs ys) (n : Nat) (hb : ∀ i, xs.length + i < n → (bys ys i).length ≤ 300) : pos xs ys n ≤ 320 * n := by
  induction n with
  | zero => exact Nat.le_refl _
  | succ n ih =>
    have := ih fun i hi => hb i (by omega)
    have hp : (piece xs ys n).length ≤ 320 := by
      unfold piece
      split
      · have := usz_le10 (num_lt hf n); unfold usz at this; omega
      · have h1 := hb (n - xs.length) (by omega)
        have h2 : usz (bys ys (n - xs.length)).length ≤ 10 := usz_le10 (by omega)
        rw [List.length_append]; unfold usz at h2; omega
    rw [pos_succ]; omega
/-- A row of rows of bytes, one of them. -/
theorem row_at {W : World} {A : Option Addr} {e : Nat} {ys : List (List Int)} (h : Kd.C (Kd.slice e (Kd.int .u8)) W A ys.length ys) {i : Nat} (hi : i < ys.length) :
    ∃ ad A' c', A = some ad ∧ W.cell? (ad.add i) = some (.slice A' (bys ys i).length c') ∧ (bys ys i).length ≤ c' ∧ (Kd.int .u8).C W A' (bys ys i).length (bys ys i) := by
  obtain ⟨ad, c, e, _, hK, hc⟩ := ReadsRow.get_ h ([] : List Int) (i : Int) (by omega) (by omega)
  rw [Int.toNat_natCast] at hK hc
  obtain ⟨A', c', rfl, h1, h2⟩ := hK
  have h3 := hc 0 _ rfl
  rw [show (Kd.slice _ (Kd.int .u8)).sz = 1 from rfl, Nat.mul_one, Nat.add_zero] at h3
  exact ⟨ad, A', c', e, h3, h1, h2⟩
end Go.Proofs.Ytamnnaadnjkdiaa.Rb
