import Derived.Test.YtamnnaadnjkdiaaCrcSpec
namespace Go.Proofs.Ytamnnaadnjkdiaa.Frame
open Go.RowKit Go.Proofs.YtamnnaadnjkdiaaW.PrintWords Go.Proofs.YtamnnaadnjkdiaaW.PrintLast Go.Proofs.YtamnnaadnjkdiaaW.PrintMore Go.Proofs.Ytamnnaadnjkdiaa.Wire Go.Proofs.Ytamnnaadnjkdiaa.Crc
set_option linter.unusedVariables false
set_option linter.unusedSimpArgs false

/-- The bytes of a frame. -/
def fput (kd : Int) (p : List Int) : List Int := sealed (kd :: (uv p.length ++ p))
/-- The frame that bytes begin with. -/
def fnext (l : List Int) : Int × List Int × Int × Int :=
  if l.length = 0 then (0, [], 0, 5) else if 2 < rd l 0 then (0, [], 0, 10) else
  if (gb (l.drop 1) 1048576).2.2 = 0 then
    (if (l.length : Int) < 1 + (gb (l.drop 1) 1048576).2.1 + 4 then (0, [], 0, 5)
     else if opened (l.take (1 + (gb (l.drop 1) 1048576).2.1 + 4).toNat) then (rd l 0, (gb (l.drop 1) 1048576).1, 1 + (gb (l.drop 1) 1048576).2.1 + 4, 0) else (0, [], 0, 8))
  else (0, [], 0, (gb (l.drop 1) 1048576).2.2)
theorem uv_len (x : Nat) : (uv x).length = usz x := rfl
theorem fput_len (kd : Int) (p : List Int) : (fput kd p).length = usz p.length + p.length + 5 := by
  unfold fput
  rw [seal_len, List.length_cons, List.length_append, uv_len]
theorem fput_bytes {kd : Int} {p : List Int} (h0 : 0 ≤ kd) (h1 : kd ≤ 2) (hp : Bytes p) : Bytes (fput kd p) := by
  refine seal_bytes fun c hc => ?_
  rcases List.mem_cons.mp hc with rfl | hc
  · omega
  · exact ((Bytes.uv _).app hp) c hc
theorem gb_put {p t : List Int} {m : Int} (hm : (p.length : Int) ≤ m) (hx : p.length < 18446744073709551616) : gb (uv p.length ++ (p ++ t)) m = (p, (usz p.length : Int) + p.length, 0) := by
  unfold gb
  rw [gu_uv hx]
  dsimp only
  have hu := uv_len p.length
  rw [if_neg (by simp), if_neg (by omega), if_neg (by rw [List.length_append, List.length_append, hu]; omega)]
  have e : (uv p.length ++ (p ++ t)).take ((usz p.length : Int).toNat + (p.length : Int).toNat) = uv p.length ++ p := by
    rw [Int.toNat_natCast, Int.toNat_natCast, ← List.append_assoc]
    exact List.take_left' (by rw [List.length_append, hu])
  rw [e, Int.toNat_natCast]
  congr 1
  exact List.drop_left' hu
theorem gb_cut {p : List Int} {m : Int} (hm : (p.length : Int) ≤ m) (hx : p.length < 18446744073709551616) {n : Nat} (hn : n < usz p.length + p.length) : gb ((uv p.length ++ p).take n) m = ([], 0, 5) := by
  have hu := uv_len p.length
  unfold gb
  by_cases h : n < usz p.length
  · rw [List.take_append_of_le_length (by rw [hu]; omega), gu_short hx h]
    dsimp only
    rw [if_pos (by decide)]
  · have e : (uv p.length ++ p).take n = uv p.length ++ p.take (n - usz p.length) := by
      rw [List.take_append, hu, List.take_of_length_le (by rw [hu]; omega)]
    rw [e, gu_uv hx]
    dsimp only
    rw [if_neg (by simp), if_neg (by omega), if_pos (by rw [List.length_append, hu, List.length_take]; omega)]
theorem gb_ok {l : List Int} {m : Int} (hb : Bytes l) (h : (gb l m).2.2 = 0) : ∃ n : Nat, (gb l m).2.1 = n ∧ n ≤ l.length ∧ (gb l m).1.length ≤ n ∧ ((gb l m).1.length : Int) ≤ m ∧ Bytes (gb l m).1 := by
  unfold gb at h ⊢
  by_cases h1 : (gu l).2.2 ≠ 0
  · rw [if_pos h1] at h; exact absurd h h1
  rw [if_neg h1] at h ⊢
  obtain ⟨x, hx1, hx2, hx3, hx4, hx5, hg⟩ := gu_ok hb (by simpa using h1)
  rw [hg] at h ⊢
  dsimp only at h ⊢
  by_cases h2 : m < 0 ∨ (x : Int) > m
  · rw [if_pos h2] at h; cases h
  rw [if_neg h2] at h ⊢
  by_cases h3 : (x : Int) > (l.length : Int) - (usz x : Int)
  · rw [if_pos h3] at h; cases h
  rw [if_neg h3]
  refine ⟨usz x + x, by simp, by omega, ?_, ?_, (hb.take _).drop _⟩
  · dsimp only
    rw [List.length_drop, List.length_take]; omega
  · dsimp only
    rw [List.length_drop, List.length_take]; omega
theorem next_put {kd : Int} {p t : List Int} (h0 : 0 ≤ kd) (h1 : kd ≤ 2) (hp : p.length ≤ 1048576) : fnext (fput kd p ++ t) = (kd, p, ((fput kd p).length : Int), 0) := by
  have hl := fput_len kd p
  have e : fput kd p ++ t = kd :: (uv p.length ++ (p ++ (put (sum (kd :: (uv p.length ++ p))) ++ t))) := by
    simp [fput, sealed]
  have er : rd (fput kd p ++ t) 0 = kd := by rw [e]; rfl
  have ed : gb ((fput kd p ++ t).drop 1) 1048576 = (p, (usz p.length : Int) + p.length, 0) := by
    rw [e, List.drop_one, List.tail_cons]
    exact gb_put (by omega) (by omega)
  unfold fnext
  rw [er, ed]
  dsimp only
  rw [if_neg (by rw [List.length_append]; omega), if_neg (by omega), if_pos rfl, if_neg (by rw [List.length_append]; omega)]
  have et : (fput kd p ++ t).take (1 + ((usz p.length : Int) + p.length) + 4).toNat = fput kd p := List.take_left' (by omega)
  rw [et, if_pos (show opened (fput kd p) from seal_opened _), hl]
  congr 3
  omega
theorem next_cut {kd : Int} {p : List Int} (h0 : 0 ≤ kd) (h1 : kd ≤ 2) (hp : p.length ≤ 1048576) {i : Nat} (hi : i < (fput kd p).length) : fnext ((fput kd p).take i) = (0, [], 0, 5) := by
  have hl := fput_len kd p
  by_cases hz : i = 0
  · subst hz; rfl
  obtain ⟨j, rfl⟩ : ∃ j, i = j + 1 := ⟨i - 1, by omega⟩
  have e : fput kd p = kd :: (uv p.length ++ (p ++ put (sum (kd :: (uv p.length ++ p))))) := by
    simp [fput, sealed]
  have hlt : ((fput kd p).take (j + 1)).length = j + 1 := by rw [List.length_take]; omega
  have er : rd ((fput kd p).take (j + 1)) 0 = kd := by rw [e]; rfl
  have ed : ((fput kd p).take (j + 1)).drop 1 = (uv p.length ++ (p ++ put (sum (kd :: (uv p.length ++ p))))).take j := by rw [e]; rfl
  unfold fnext
  rw [er, hlt, if_neg (by omega), if_neg (by omega), ed]
  by_cases hj : j < usz p.length + p.length
  · have e2 : (uv p.length ++ (p ++ put (sum (kd :: (uv p.length ++ p))))).take j = (uv p.length ++ p).take j := by
      rw [← List.append_assoc, List.take_append_of_le_length (by rw [List.length_append, uv_len]; omega)]
    rw [e2, gb_cut (by omega) (by omega) hj]
    dsimp only
    rw [if_neg (by decide)]
  · have e2 : (uv p.length ++ (p ++ put (sum (kd :: (uv p.length ++ p))))).take j = uv p.length ++ (p ++ (put (sum (kd :: (uv p.length ++ p)))).take (j - (usz p.length + p.length))) := by
      rw [← List.append_assoc, List.take_append, List.length_append, uv_len, List.take_of_length_le (by rw [List.length_append, uv_len]; omega), List.append_assoc]
    rw [e2, gb_put (by omega) (by omega)]
    dsimp only
    rw [if_pos rfl, if_pos (by omega)]
end Go.Proofs.Ytamnnaadnjkdiaa.Frame
