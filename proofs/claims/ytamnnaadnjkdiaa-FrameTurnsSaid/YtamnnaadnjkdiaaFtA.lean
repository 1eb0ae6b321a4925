import Derived.Test.YtamnnaadnjkdiaaFrameSpec
import Derived.Test.YtamnnaadnjkdiaaWireSpec2
/-! FrameTurns: the plain part: what bits turned outside the length do to a frame. -/
namespace Go.Proofs.Ytamnnaadnjkdiaa.Ft
open Go.RowKit Go.Proofs.YtamnnaadnjkdiaaW.PrintWords Go.Proofs.YtamnnaadnjkdiaaW.PrintLast Go.Proofs.YtamnnaadnjkdiaaW.PrintMore Go.Proofs.Ytamnnaadnjkdiaa.Wire Go.Proofs.Ytamnnaadnjkdiaa.Crc Go.Proofs.Ytamnnaadnjkdiaa.Frame
set_option linter.unusedVariables false
set_option linter.unusedSimpArgs false
/-- A kind, the length n as it is written, and n + 4 more bytes. -/
def Shape (n : Nat) (l : List Int) : Prop := ∃ c r, l = c :: (uv n ++ r) ∧ r.length = n + 4
theorem shape_put {p : List Int} : Shape p.length (fput 2 p) := ⟨2, p ++ put (sum (2 :: (uv p.length ++ p))), by unfold fput sealed; simp, by rw [List.length_append, put_len]⟩
theorem shape_set {n : Nat} {l : List Int} (h : Shape n l) {j : Nat} (hj : j = 0 ∨ 1 + usz n ≤ j) (v : Int) : Shape n (l.set j v) := by
  obtain ⟨c, r, rfl, hr⟩ := h
  rcases hj with rfl | hj
  · exact ⟨v, r, rfl, hr⟩
  · obtain ⟨m, rfl⟩ : ∃ m, j = 1 + usz n + m := ⟨j - (1 + usz n), by omega⟩
    refine ⟨c, r.set m v, ?_, by rw [List.length_set, hr]⟩
    rw [show 1 + usz n + m = (usz n + m) + 1 by omega, List.set_cons_succ, List.set_append_right _ _ (by rw [uv_len]; omega), uv_len, show usz n + m - usz n = m by omega]
theorem shape_flip {n : Nat} {l : List Int} (h : Shape n l) {i : Nat} (hi : i < 8 ∨ 8 * (1 + usz n) ≤ i) : Shape n (Crc.flip l i) := by
  unfold Crc.flip
  exact shape_set h (by omega) _
theorem head_flip {n : Nat} {l : List Int} (h : Shape n l) {i : Nat} (hi : 8 * (1 + usz n) ≤ i) : rd (Crc.flip l i) 0 = rd l 0 := by
  obtain ⟨c, r, rfl, hr⟩ := h
  unfold Crc.flip
  obtain ⟨m, hm⟩ : ∃ m, i / 8 = m + 1 := ⟨i / 8 - 1, by omega⟩
  rw [hm, List.set_cons_succ]
  rfl
theorem next_shape {n : Nat} {l : List Int} (h : Shape n l) (hn : n ≤ 1048576) (ho : ¬ opened l) : fnext l = if 2 < rd l 0 then (0, [], 0, 10) else (0, [], 0, 8) := by
  obtain ⟨c, r, rfl, hr⟩ := h
  have h1 : (r.take n).length = n := by rw [List.length_take]; omega
  have hg : gb (uv n ++ r) 1048576 = (r.take n, (usz n : Int) + n, 0) := by
    have := gb_put (p := r.take n) (t := r.drop n) (m := 1048576) (by omega) (by omega)
    rw [h1, List.take_append_drop] at this
    exact this
  unfold fnext
  rw [if_neg (by simp), show (c :: (uv n ++ r)).drop 1 = uv n ++ r from rfl, hg]
  have hl : (c :: (uv n ++ r)).length = 1 + (usz n + n) + 4 := by rw [List.length_cons, List.length_append, uv_len, hr]; omega
  simp only [if_true]
  rw [if_neg (show ¬ (((c :: (uv n ++ r)).length : Nat) : Int) < 1 + ((usz n : Int) + (n : Int)) + 4 by rw [hl]; omega), List.take_of_length_le (by rw [hl]; omega), if_neg ho]
/-- Three places, each turned once. -/
def turn3 (b : List Int) (i0 i1 i2 : Nat) : List Int :=
  let t1 := Crc.flip b i0
  let t2 := if i1 = i0 then t1 else Crc.flip t1 i1
  if i2 = i0 ∨ i2 = i1 then t2 else Crc.flip t2 i2
theorem turned {s : List Int} {n : Nat} (hn : s.length = n) (h3 : 8 * n ≤ 24600) {p0 p1 p2 : Nat} (h0 : p0 < 8 * n) (h1 : p1 < 8 * n) (h2 : p2 < 8 * n) :
    ∃ d, F (turn3 s p0 p1 p2) = F s ^^^ d ∧ d ≠ 0 := by
  subst hn
  have f0 := F_flip s p0 h0
  have l0 := flip_len s p0
  unfold turn3
  simp only []
  by_cases h01 : p1 = p0
  · rw [if_pos h01]
    by_cases h02 : p2 = p0 ∨ p2 = p1
    · rw [if_pos h02]
      exact ⟨_, f0, one_ne_zero _⟩
    · rw [if_neg h02, F_flip _ _ (by rw [l0]; exact h2), f0, l0, Nat.xor_assoc]
      exact ⟨_, rfl, two_ne (by omega) (by omega) (by omega)⟩
  · rw [if_neg h01]
    have f1 := F_flip (Crc.flip s p0) p1 (by rw [l0]; exact h1)
    have l1 := flip_len (Crc.flip s p0) p1
    rw [f0, l0, Nat.xor_assoc] at f1
    by_cases h02 : p2 = p0 ∨ p2 = p1
    · rw [if_pos h02]
      exact ⟨_, f1, two_ne (by omega) (by omega) (by omega)⟩
    · rw [if_neg h02, F_flip _ _ (by rw [l1, l0]; exact h2), f1, l1, l0, Nat.xor_assoc]
      exact ⟨_, rfl, three_ne _ _ _⟩
theorem turn3_shape {n : Nat} {b : List Int} (h : Shape n b) {i0 i1 i2 : Nat} (h0 : i0 < 8 ∨ 8 * (1 + usz n) ≤ i0) (h1 : i1 < 8 ∨ 8 * (1 + usz n) ≤ i1) (h2 : i2 < 8 ∨ 8 * (1 + usz n) ≤ i2) : Shape n (turn3 b i0 i1 i2) := by
  unfold turn3
  simp only []
  have a := shape_flip h h0
  have b' : Shape n (if i1 = i0 then Crc.flip b i0 else Crc.flip (Crc.flip b i0) i1) := by split; exact a; exact shape_flip a h1
  split
  · exact b'
  · exact shape_flip b' h2
theorem turn3_bytes {b : List Int} (h : Bytes b) (i0 i1 i2 : Nat) : Bytes (turn3 b i0 i1 i2) := by
  unfold turn3
  simp only []
  have a := flip_bytes h i0
  have b' : Bytes (if i1 = i0 then Crc.flip b i0 else Crc.flip (Crc.flip b i0) i1) := by split; exact a; exact flip_bytes a i1
  split
  · exact b'
  · exact flip_bytes b' i2
/-- With up to three bits turned outside the length no frame stands there. -/
theorem next_turned {p : List Int} (hp : Bytes p) (hl : p.length ≤ 3000) {i0 i1 i2 : Nat} (h0 : i0 < 8 ∨ 8 * (1 + usz p.length) ≤ i0) (h1 : i1 < 8 ∨ 8 * (1 + usz p.length) ≤ i1) (h2 : i2 < 8 ∨ 8 * (1 + usz p.length) ≤ i2)
    (k0 : i0 < 8 * (fput 2 p).length) (k1 : i1 < 8 * (fput 2 p).length) (k2 : i2 < 8 * (fput 2 p).length) :
    ∃ e, fnext (turn3 (fput 2 p) i0 i1 i2) = (0, [], 0, e) ∧ (e = 8 ∨ e = 10) := by
  have hb : Bytes (fput 2 p) := fput_bytes (by decide) (by decide) hp
  have hu : usz p.length ≤ 10 := usz_le10 (by omega)
  obtain ⟨d, hd, hd0⟩ := turned (s := fput 2 p) rfl (by rw [fput_len]; omega) k0 k1 k2
  have hno : ¬ opened (turn3 (fput 2 p) i0 i1 i2) := not_opened hb (turn3_bytes hb _ _ _) (seal_opened _) hd hd0
  rw [next_shape (turn3_shape shape_put h0 h1 h2) (by omega) hno]
  split
  · exact ⟨10, rfl, .inr rfl⟩
  · exact ⟨8, rfl, .inl rfl⟩
theorem xor_pow {a k : Nat} (h : a < 2 ^ k) : a ^^^ 2 ^ k = a + 2 ^ k := by
  apply Nat.eq_of_testBit_eq
  intro j
  rw [Nat.testBit_xor, Nat.testBit_two_pow, Nat.add_comm]
  rcases Nat.lt_trichotomy j k with hj | hj | hj
  · rw [Nat.testBit_two_pow_add_gt hj]
    simp [show ¬ k = j by omega]
  · subst hj
    rw [Nat.testBit_two_pow_add_eq, Nat.testBit_lt_two_pow h]
    simp
  · have h1 : a < 2 ^ j := Nat.lt_of_lt_of_le h (Nat.pow_le_pow_right (by decide) (by omega))
    have h2 : 2 ^ k + a < 2 ^ j := by
      have : 2 ^ (k + 1) ≤ 2 ^ j := Nat.pow_le_pow_right (by decide) hj
      rw [Nat.pow_succ] at this
      omega
    rw [Nat.testBit_lt_two_pow h1, Nat.testBit_lt_two_pow h2]
    simp [show ¬ k = j by omega]
/-- The first j of a word's bits, turned from place i on. -/
def burst (b : List Int) (x i : Nat) : Nat → List Int
  | 0 => b
  | j + 1 => if x / 2 ^ j % 2 = 1 then Crc.flip (burst b x i j) (i + j) else burst b x i j
theorem burst_len (b : List Int) (x i : Nat) : ∀ j, (burst b x i j).length = b.length := by
  intro j
  induction j with
  | zero => rfl
  | succ j ih =>
    unfold burst
    split
    · rw [flip_len, ih]
    · exact ih
theorem burst_bytes {b : List Int} (h : Bytes b) (x i : Nat) : ∀ j, Bytes (burst b x i j) := by
  intro j
  induction j with
  | zero => exact h
  | succ j ih =>
    unfold burst
    split
    · exact flip_bytes ih _
    · exact ih
theorem burst_shape {n : Nat} {b : List Int} (h : Shape n b) (x : Nat) {i : Nat} (hi : 8 * (1 + usz n) ≤ i) : ∀ j, Shape n (burst b x i j) ∧ rd (burst b x i j) 0 = rd b 0 := by
  intro j
  induction j with
  | zero => exact ⟨h, rfl⟩
  | succ j ih =>
    unfold burst
    split
    · exact ⟨shape_flip ih.1 (.inr (by omega)), by rw [head_flip ih.1 (by omega), ih.2]⟩
    · exact ih
theorem burst_F {b : List Int} (x : Nat) {i n : Nat} (hn : b.length = n) (hi : i + 31 < 8 * n) : ∀ j, j ≤ 32 → F (burst b x i j) = F b ^^^ iter (8 * n - i) (x % 2 ^ j) := by
  intro j
  induction j with
  | zero => intro _; rw [Nat.pow_zero, Nat.mod_one, iter_zero, Nat.xor_zero]; rfl
  | succ j ih =>
    intro hj
    have hF := ih (by omega)
    have hpow : x % 2 ^ (j + 1) = x % 2 ^ j + 2 ^ j * (x / 2 ^ j % 2) := Nat.mod_pow_succ
    have hle : j ≤ 8 * n - i := by omega
    have hsub : 8 * n - i - j = 8 * n - (i + j) := by omega
    have hlt : i + j < 8 * (burst b x i j).length := by rw [burst_len, hn]; omega
    unfold burst
    by_cases h : x / 2 ^ j % 2 = 1
    · rw [if_pos h, F_flip _ _ hlt, hF, burst_len, hn, hpow, h, Nat.mul_one, ← xor_pow (Nat.mod_lt _ (Nat.two_pow_pos j)), iter_xor, iter_pow j _ hle, Nat.xor_assoc, hsub]
    · have h0 : x / 2 ^ j % 2 = 0 := by omega
      rw [if_neg h, hF, hpow, h0, Nat.mul_zero, Nat.add_zero]
/-- With bits turned within 32 that follow each other, behind the length, the sum is wrong. -/
theorem next_burst {p : List Int} (hp : Bytes p) (hl : p.length ≤ 3000) {x i : Nat} (hx : x < 4294967296) (hx0 : x ≠ 0) (hi : 8 * (1 + usz p.length) ≤ i) (hi2 : i + 31 < 8 * (fput 2 p).length) : fnext (burst (fput 2 p) x i 32) = (0, [], 0, 8) := by
  have hb : Bytes (fput 2 p) := fput_bytes (by decide) (by decide) hp
  have hF := burst_F x rfl hi2 32 (Nat.le_refl _)
  rw [show x % 2 ^ 32 = x from Nat.mod_eq_of_lt hx] at hF
  have hno : ¬ opened (burst (fput 2 p) x i 32) := not_opened hb (burst_bytes hb _ _ _) (seal_opened _) hF (fun h => hx0 (iter_ne hx _ h))
  obtain ⟨h1, h2⟩ := burst_shape (shape_put (p := p)) x hi 32
  rw [next_shape h1 (by omega) hno, h2, if_neg (by show ¬ (2 : Int) < 2; omega)]
end Go.Proofs.Ytamnnaadnjkdiaa.Ft
