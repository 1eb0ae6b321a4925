import Derived.Test.YtciolchdihlgfaaDoorWireSpec2
import Derived.Test.YtciolchdihlgfaaDoorPScx
namespace Go.Proofs.YtciolchdihlgfaaDoor.ScG
open Go.RowKit Go.Proofs.YtciolchdihlgfaaDoorW.PrintWords Go.Proofs.YtciolchdihlgfaaDoorW.PrintLast Go.Proofs.YtciolchdihlgfaaDoorW.PrintMore Go.Proofs.YtciolchdihlgfaaDoor.Wire Go.Proofs.YtciolchdihlgfaaDoor.PSc
set_option linter.unusedVariables false
set_option linter.unusedSimpArgs false
theorem w64 {n : Int} (h0 : -9223372036854775808 ≤ n) (h1 : n ≤ 9223372036854775807) : wrap64 n = n := by
  unfold wrap64
  omega
theorem uw {n : Int} (h0 : 0 ≤ n) (h1 : n < 18446744073709551616) : IntKind.u64.wrap n = n := by
  rw [u64_wrap]
  omega
theorem p7 (i : Nat) : (2 : Nat) ^ (7 * i) = 128 ^ i := by rw [Nat.pow_mul]
theorem shr7 (x i : Nat) (hi : i ≤ 9) : shr .u64 (x : Int) (wrap64 (7 * (i : Int))) = ((x / 128 ^ i : Nat) : Int) := by
  rw [w64 (by omega) (by omega)]
  unfold shr
  rw [show ((7 * (i : Int)).toNat) = 7 * i by omega, Nat.min_eq_left (show 7 * i ≤ IntKind.u64.bits by simp [IntKind.bits]; omega), ← p7]
  simp
theorem shl7 (p i : Nat) (hi : i ≤ 9) : shl .u64 (p : Int) (wrap64 (7 * (i : Int))) = ((p * 128 ^ i % 18446744073709551616 : Nat) : Int) := by
  rw [w64 (by omega) (by omega)]
  unfold shl
  rw [show ((7 * (i : Int)).toNat) = 7 * i by omega, Nat.min_eq_left (show 7 * i ≤ IntKind.u64.bits by simp [IntKind.bits]; omega), ← p7, u64_wrap]
  simp
theorem mn10 (n : Nat) : mn (n : Int) 10 = ((min n 10 : Nat) : Int) := by
  unfold mn
  split <;> omega
theorem rdn (l : List Int) (i : Nat) : rd l (i : Int) = l.getD i 0 := by
  unfold rd
  rw [Int.toNat_natCast]
theorem len64 (x : Nat) (hx : x < 18446744073709551616) (k : Nat) : LenOK x (bits_Len64.f (k + 1) (x : Int)) := by
  unfold bits_Len64.f
  by_cases h32 : (x : Int) ≥ 4294967296
  · rw [if_pos h32, bits_Len64.j0]
    by_cases h16 : (x : Int) / 4294967296 ≥ 65536
    · rw [if_pos h16]
      by_cases h8 : (x : Int) / 4294967296 / 65536 ≥ 256
      · rw [if_pos h8, if_pos (by omega), if_pos (by omega)]
        exact len_at _ rfl x 56 _ _ _ (by omega) (by omega) (.inl (by omega)) (by decide) (by unfold wrap64; decide) rfl
      · rw [if_neg h8, if_pos (by omega), if_pos (by omega)]
        exact len_at _ rfl x 48 _ _ _ (by omega) (by omega) (.inl (by omega)) (by decide) (by unfold wrap64; decide) rfl
    · rw [if_neg h16]
      by_cases h8 : (x : Int) / 4294967296 ≥ 256
      · rw [if_pos h8, if_pos (by omega), if_pos (by omega)]
        exact len_at _ rfl x 40 _ _ _ (by omega) (by omega) (.inl (by omega)) (by decide) (by unfold wrap64; decide) rfl
      · rw [if_neg h8, if_pos (by omega), if_pos (by omega)]
        exact len_at _ rfl x 32 _ _ _ (by omega) (by omega) (.inl (by omega)) (by decide) (by decide) rfl
  · rw [if_neg h32, bits_Len64.j0]
    by_cases h16 : (x : Int) ≥ 65536
    · rw [if_pos h16]
      by_cases h8 : (x : Int) / 65536 ≥ 256
      · rw [if_pos h8, if_pos (by omega), if_pos (by omega)]
        exact len_at _ rfl x 24 _ _ _ (by omega) (by omega) (.inl (by omega)) (by decide) (by unfold wrap64; decide) rfl
      · rw [if_neg h8, if_pos (by omega), if_pos (by omega)]
        exact len_at _ rfl x 16 _ _ _ (by omega) (by omega) (.inl (by omega)) (by decide) (by unfold wrap64; decide) rfl
    · rw [if_neg h16]
      by_cases h8 : (x : Int) ≥ 256
      · rw [if_pos h8, if_pos (by omega), if_pos (by omega)]
        exact len_at _ rfl x 8 _ _ _ (by omega) (by omega) (.inl (by omega)) (by decide) (by unfold wrap64; decide) rfl
      · rw [if_neg h8, if_pos (by omega), if_pos (by omega)]
        exact len_at _ rfl x 0 _ _ _ (by omega) (by omega) (.inr rfl) (by decide) (by decide) rfl
theorem size (x : Nat) (hx : x < 18446744073709551616) (k : Nat) (hk : 1 ≤ k) : wire_Size.f k (x : Int) = some (usz x : Int) := by
  obtain ⟨k, rfl⟩ : ∃ m, k = m + 1 := ⟨k - 1, by omega⟩
  obtain ⟨r, hr, h64, hp⟩ := len64 x hx k
  unfold wire_Size.f
  rw [hr]
  simp only [Option.bind_some]
  rw [size_of_len h64 hp]
/-- The row while it is filled. -/
def filled (x n i : Nat) : List Int := (List.range n).map fun j => if j < i then ((128 + x / 128 ^ j % 128 : Nat) : Int) else 0
theorem filled_len (x n i : Nat) : (filled x n i).length = n := by simp [filled]
theorem filled_get (x n i j : Nat) (hj : j < n) : (filled x n i).getD j 0 = if j < i then ((128 + x / 128 ^ j % 128 : Nat) : Int) else 0 := by simp [filled, List.getD_eq_getElem?_getD, List.getElem?_map, List.getElem?_range hj]
theorem filled_zero (x n : Nat) : filled x n 0 = List.replicate n 0 := by
  apply List.ext_getElem
  · simp [filled]
  · intro i h1 h2
    simp [filled]
theorem filled_set (x n i : Nat) (hi : i < n) : (filled x n i).set i ((128 + x / 128 ^ i % 128 : Nat) : Int) = filled x n (i + 1) := by
  apply List.ext_getElem
  · simp [filled]
  · intro j h1 h2
    simp only [List.getElem_set, filled, List.getElem_map, List.getElem_range]
    by_cases e : i = j
    · subst e
      rw [if_pos rfl, if_pos (by omega)]
    · rw [if_neg e]
      by_cases h : j < i
      · rw [if_pos h, if_pos (by omega)]
      · rw [if_neg h, if_neg (by omega)]
theorem filled_last (x n : Nat) (h1 : 1 ≤ n) (hn : n = usz x) (v : Int) (hv : v = ((x / 128 ^ (n - 1) : Nat) : Int)) : (filled x n n).set (n - 1) v = uv x := by
  apply List.ext_getElem
  · rw [List.length_set, filled_len, hn]
    rfl
  · intro j a b
    have hb : j < usz x := b
    have hu := uv_get x j hb
    rw [List.getD_eq_getElem?_getD, List.getElem?_eq_getElem b] at hu
    simp only [Option.getD_some] at hu
    rw [hu, List.getElem_set]
    by_cases e : n - 1 = j
    · subst e
      rw [if_pos rfl, if_neg (by omega), hv]
    · rw [if_neg e, if_pos (by omega)]
      simp only [filled, List.getElem_map, List.getElem_range]
      rw [if_pos (by omega)]
theorem uint_loop (x n : Nat) (h1 : 1 ≤ n) (hn : n = usz x) (hx : x < 18446744073709551616) : ∀ d k i, n - i = d → i ≤ n → d < k → wire_Uint.l0 k (x : Int) (filled x n i) (n : Int) (i : Int) = some (uv x) := by
  have h10 : n ≤ 10 := by rw [hn]; exact usz_le10 hx
  intro d
  induction d with
  | zero =>
    intro k i hd hi hk
    obtain rfl : i = n := by omega
    obtain ⟨k, rfl⟩ : ∃ m, k = m + 1 := ⟨k - 1, by omega⟩
    simp only [wire_Uint.l0, filled_len]
    rw [w64 (n := (i : Int) - 1) (by omega) (by omega), if_neg (by omega), if_pos (by omega), if_pos (by omega)]
    rw [show ((i : Int) - 1) = ((i - 1 : Nat) : Int) by omega, Int.toNat_natCast, rdn, filled_get _ _ _ _ (by omega), if_pos (by omega), andNot_128 (by omega) (by omega)]
    rw [filled_last x i h1 hn]
    have hs := (usz_spec x).2.1
    rw [← hn] at hs
    obtain ⟨m, hm⟩ : ∃ m, i = m + 1 := ⟨i - 1, by omega⟩
    rw [hm, Nat.pow_succ] at hs
    rw [show i - 1 = m by omega]
    have hq : x / 128 ^ m < 128 := (Nat.div_lt_iff_lt_mul (Nat.pow_pos (by decide))).2 (by rw [Nat.mul_comm]; exact hs)
    generalize x / 128 ^ m = q at *
    omega
  | succ d ih =>
    intro k i hd hi hk
    obtain ⟨k, rfl⟩ : ∃ m, k = m + 1 := ⟨k - 1, by omega⟩
    simp only [wire_Uint.l0, filled_len]
    rw [shr7 x i (by omega), if_pos (by omega), w64 (n := 7 * (i : Int)) (by omega) (by omega), if_pos (by omega), if_pos (by omega), if_pos (by omega), Int.toNat_natCast, or_128 (by omega) (by omega)]
    rw [show (128 + ((x / 128 ^ i : Nat) : Int) % 256 % 128) = ((128 + x / 128 ^ i % 128 : Nat) : Int) by omega, filled_set _ _ _ (by omega), w64 (by omega) (by omega)]
    exact ih k (i + 1) (by omega) (by omega) (by omega)
theorem uint (x : Nat) (hx : x < 18446744073709551616) (k : Nat) (hk : 12 ≤ k) : wire_Uint.f k (x : Int) = some (uv x) := by
  have h1 := (usz_spec x).1
  have h10 := usz_le10 hx
  unfold wire_Uint.f
  rw [size x hx k (by omega)]
  simp only [Option.bind_some, Int.toNat_natCast, List.length_replicate]
  rw [if_pos (by omega), if_pos (by omega), ← filled_zero x]
  exact uint_loop x _ h1 rfl hx (usz x) k 0 (by omega) (by omega) (by omega)
theorem putBytes (l : List Int) (hl : l.length ≤ 140737488351232) (k : Nat) (hk : 12 ≤ k) : wire_Bytes.f k l = some (uv l.length ++ l) := by
  unfold wire_Bytes.f
  rw [uw (by omega) (by omega), uint l.length (by omega) k hk]
  simp only [Option.bind_some]
  have : (uv l.length).length ≤ 10 := usz_le10 (x := l.length) (by omega)
  rw [if_pos (by omega)]
theorem getUint_loop (l : List Int) (hb : Bytes l) : ∀ d k (i acc : Nat) (x5 : Int), min l.length 10 - i = d → i ≤ min l.length 10 → (i ≤ 9 → x5 = acc ∧ acc < 128 ^ i) → d < k →
    wire_GetUint.l0 k l x5 ((min l.length 10 : Nat) : Int) (i : Int) = some (scan i acc (l.drop i)) := by
  intro d
  induction d with
  | zero =>
    intro k i acc x5 hd hi hacc hk
    obtain ⟨k, rfl⟩ : ∃ m, k = m + 1 := ⟨k - 1, by omega⟩
    simp only [wire_GetUint.l0]
    rw [if_neg (by omega)]
    by_cases h10 : l.length ≥ 10
    · rw [if_pos (by omega)]
      cases hd2 : l.drop i with
      | nil =>
        simp only [scan]
        rw [if_pos (by omega)]
      | cons c t =>
        simp only [scan]
        rw [if_pos (by omega)]
    · rw [if_neg (by omega), List.drop_eq_nil_of_le (by omega)]
      simp only [scan]
      rw [if_neg (by omega)]
  | succ d ih =>
    intro k i acc x5 hd hi hacc hk
    obtain ⟨k, rfl⟩ : ∃ m, k = m + 1 := ⟨k - 1, by omega⟩
    have hi9 : i ≤ 9 := by omega
    have hlt : i < l.length := by omega
    obtain ⟨rfl, hac⟩ := hacc hi9
    have hcons : l.drop i = l[i] :: l.drop (i + 1) := List.drop_eq_getElem_cons hlt
    have hrd : rd l (i : Int) = l[i] := by rw [rdn, List.getD_eq_getElem?_getD, List.getElem?_eq_getElem hlt]; rfl
    have hc := hb _ (List.getElem_mem hlt)
    rw [hcons]
    simp only [wire_GetUint.l0, scan, hrd]
    generalize l[i] = c at *
    obtain ⟨c, rfl⟩ := Int.eq_ofNat_of_zero_le hc.1
    rw [if_pos (by omega), if_pos (by omega), if_pos (by omega), w64 (n := 7 * (i : Int)) (by omega) (by omega), if_pos (by omega), if_neg (show ¬ 10 ≤ i by omega)]
    rw [andNot_128 hc.1 hc.2, show ((c : Int) % 128) = ((c % 128 : Nat) : Int) by omega, uw (n := ((c % 128 : Nat) : Int)) (by omega) (by omega), uw (n := (c : Int)) (by omega) (by omega)]
    have e7 := shl7 (c % 128) i hi9
    rw [w64 (n := 7 * (i : Int)) (by omega) (by omega)] at e7
    rw [e7, Int.toNat_natCast]
    have hpos : 0 < 128 ^ i := Nat.pow_pos (by decide)
    by_cases h128 : (c : Int) ≥ 128
    · rw [if_pos h128, if_pos h128, w64 (by omega) (by omega)]
      refine ih k (i + 1) _ _ (by omega) (by omega) (fun h8 => ?_) (by omega)
      have hm : c % 128 * 128 ^ i < 128 ^ (i + 1) := by
        rw [Nat.pow_succ, Nat.mul_comm]
        exact Nat.mul_lt_mul_of_pos_left (Nat.mod_lt _ (by decide)) hpos
      have hp9 : 128 ^ (i + 1) ≤ 128 ^ 9 := Nat.pow_le_pow_right (by decide) h8
      have hp9' : (128 : Nat) ^ 9 = 9223372036854775808 := by decide
      rw [Nat.mod_eq_of_lt (by omega : c % 128 * 128 ^ i < 18446744073709551616)]
      refine ⟨?_, ?_⟩
      · rw [u64_join (7 * i) (acc : Int) ((c % 128 * 128 ^ i : Nat) : Int) (by omega) ?_ (by omega) (by omega) ?_ (by omega)]
        · rw [show c - 128 = c % 128 by omega]
          omega
        · have : ((2 : Int) ^ (7 * i)) = ((128 ^ i : Nat) : Int) := by rw [← p7]; simp
          rw [this, ← Int.natCast_emod, Nat.mul_mod_left]
          rfl
        · have : ((2 : Int) ^ (7 * i)) = ((128 ^ i : Nat) : Int) := by rw [← p7]; simp
          rw [this]
          omega
      · rw [show c - 128 = c % 128 by omega]
        have : c % 128 * 128 ^ i + 128 ^ i ≤ 128 ^ (i + 1) := by
          rw [← Nat.succ_mul, Nat.pow_succ, Nat.mul_comm]
          exact Nat.mul_le_mul_left _ (Nat.mod_lt _ (by decide))
        omega
    · rw [if_neg h128, if_neg h128, show c % 128 = c by omega]
      by_cases h9 : i = 9 ∧ (c : Int) ≥ 2
      · rw [if_pos h9, if_neg]
        have e8 := shr7 (c * 128 ^ i % 18446744073709551616) i hi9
        rw [w64 (n := 7 * (i : Int)) (by omega) (by omega)] at e8
        rw [e8]
        obtain ⟨h9, h2⟩ := h9
        subst h9
        omega
      · rw [if_neg h9]
        have hsm : c * 128 ^ i < 18446744073709551616 := by
          by_cases e9 : i = 9
          · subst e9
            omega
          · have hp8 : 128 ^ i ≤ 128 ^ 8 := Nat.pow_le_pow_right (by decide) (by omega)
            have hp8' : (128 : Nat) ^ 8 = 72057594037927936 := by decide
            have := Nat.mul_le_mul (show c ≤ 127 by omega) hp8
            omega
        rw [Nat.mod_eq_of_lt hsm]
        have e8 := shr7 (c * 128 ^ i) i hi9
        rw [w64 (n := 7 * (i : Int)) (by omega) (by omega)] at e8
        rw [e8, Nat.mul_div_cancel _ hpos, if_pos rfl]
        have hj : bits .or .u64 (acc : Int) ((c * 128 ^ i : Nat) : Int) = ((acc + c * 128 ^ i : Nat) : Int) := by
          have hp9 : 128 ^ i ≤ 128 ^ 9 := Nat.pow_le_pow_right (by decide) hi9
          have hp9' : (128 : Nat) ^ 9 = 9223372036854775808 := by decide
          rw [u64_join (7 * i) (acc : Int) ((c * 128 ^ i : Nat) : Int) (by omega) ?_ (by omega) (by omega) ?_ (by omega)]
          · omega
          · have : ((2 : Int) ^ (7 * i)) = ((128 ^ i : Nat) : Int) := by rw [← p7]; simp
            rw [this, ← Int.natCast_emod, Nat.mul_mod_left]
            rfl
          · have : ((2 : Int) ^ (7 * i)) = ((128 ^ i : Nat) : Int) := by rw [← p7]; simp
            rw [this]
            omega
        rw [hj, w64 (by omega) (by omega)]
        by_cases h0 : (c : Int) = 0
        · rw [if_pos h0]
          by_cases hi0 : (i : Int) > 0
          · rw [if_pos hi0, if_pos ⟨h0, by omega⟩]
          · rw [if_neg hi0, if_neg (by omega)]
            rfl
        · rw [if_neg h0, if_neg (by omega)]
          rfl
theorem getUint (l : List Int) (hb : Bytes l) (k : Nat) (hk : 12 ≤ k) : wire_GetUint.f k l = some (gu l) := by
  unfold wire_GetUint.f
  rw [mn10]
  have := getUint_loop l hb (min l.length 10) k 0 0 0 (by omega) (by omega) (fun _ => ⟨rfl, by simp⟩) (by omega)
  simpa [gu] using this
theorem getBytes (l : List Int) (hb : Bytes l) (hl : l.length ≤ 140737488351232) (m : Int) (hm : m ≤ 9223372036854775807) (k : Nat) (hk : 12 ≤ k) : wire_GetBytes.f k l m = some (Wire.gb l m) := by
  unfold wire_GetBytes.f Wire.gb
  rw [getUint l hb k hk]
  simp only [Option.bind_some]
  obtain ⟨k, rfl⟩ : ∃ q, k = q + 1 := ⟨k - 1, by omega⟩
  simp only [wire_GetBytes.j0]
  by_cases h : (gu l).2.2 = 0
  · obtain ⟨x, _, h2, h3, h4, h5, h6⟩ := gu_ok hb h
    rw [if_pos h, if_neg (show ¬ (gu l).2.2 ≠ 0 from fun z => z h), h6]
    simp only
    by_cases hm0 : m < 0
    · rw [if_pos hm0, if_pos (show m < 0 ∨ (x : Int) > m from .inl hm0)]
      simp
    · rw [if_neg hm0, uw (n := m) (by omega) (by omega)]
      by_cases hx : (x : Int) > m
      · rw [if_pos (show m < 0 ∨ (x : Int) > m from .inr hx), if_pos (by simpa using hx)]
      · rw [if_neg (show ¬ (m < 0 ∨ (x : Int) > m) by omega), if_neg (by simpa using hx), w64 (n := (l.length : Int) - usz x) (by omega) (by omega), uw (n := (l.length : Int) - usz x) (by omega) (by omega)]
        by_cases hs : (x : Int) > (l.length : Int) - (usz x : Int)
        · rw [if_pos hs, if_pos hs]
        · rw [if_neg hs, if_neg hs, w64 (n := (x : Int)) (by omega) (by omega), w64 (n := (usz x : Int) + (x : Int)) (by omega) (by omega)]
          simp only [Option.bind_some]
          rw [if_pos (by omega), if_pos (by omega), if_pos (by omega), if_pos (by simp; omega)]
          rw [show ((usz x : Int) + (x : Int)).toNat = usz x + x by omega, show ((usz x : Int)).toNat = usz x by omega]
          simp
  · rw [if_neg h, if_pos h]
/-- The number that the first bytes are, whatever it is. -/
def val : List Int → Nat
  | [] => 0
  | c :: t => c.toNat % 128 + 128 * val t
theorem val_snoc (l : List Int) (c : Int) : val (l ++ [c]) = val l + c.toNat % 128 * 128 ^ l.length := by
  induction l with
  | nil => simp [val]
  | cons d t ih =>
    simp only [List.cons_append, val, ih, List.length_cons, Nat.pow_succ]
    rw [Nat.mul_add, ← Nat.mul_assoc, Nat.mul_comm 128 (c.toNat % 128), Nat.mul_assoc, Nat.mul_comm 128 (128 ^ t.length)]
    omega
theorem val_lt (l : List Int) : val l < 128 ^ l.length := by
  induction l with
  | nil => simp [val]
  | cons d t ih =>
    simp only [val, List.length_cons, Nat.pow_succ]
    omega
/-- From place i down: what is told of the first n + 1 bytes. -/
theorem refGU_down (l : List Int) (hb : Bytes l) (n : Nat) (hn : n < l.length) (hn9 : n ≤ 9) : ∀ i k (x : Nat), i ≤ n + 1 → x = val ((l.take (n + 1)).drop i) → x < 18446744073709551616 → i < k →
    deckleref01_GetUint.l1 k l (n : Int) (x : Int) ((i : Int) - 1) = some (if 18446744073709551616 ≤ val (l.take (n + 1)) then (0, 0, 7) else if 0 < n ∧ l.getD n 0 = 0 then (0, 0, 6) else ((val (l.take (n + 1)) : Int), ((n + 1 : Nat) : Int), 0)) := by
  intro i
  induction i with
  | zero =>
    intro k x hi hx hxs hk
    obtain ⟨k, rfl⟩ : ∃ m, k = m + 1 := ⟨k - 1, by omega⟩
    simp only [List.drop_zero] at hx
    subst hx
    simp only [deckleref01_GetUint.l1]
    rw [if_neg (by omega), if_neg (show ¬ 18446744073709551616 ≤ val (l.take (n + 1)) by omega), w64 (by omega) (by omega), rdn]
    by_cases h0 : (n : Int) > 0
    · rw [if_pos h0, if_pos (by omega), if_pos (by omega)]
      by_cases hz : l.getD n 0 = 0
      · rw [if_pos hz, if_pos ⟨by omega, hz⟩]
      · rw [if_neg hz, if_neg (fun z => hz z.2)]
        simp
    · rw [if_neg h0, if_neg (by omega)]
      simp
  | succ i ih =>
    intro k x hi hx hxs hk
    obtain ⟨k, rfl⟩ : ∃ m, k = m + 1 := ⟨k - 1, by omega⟩
    have hlen : (l.take (n + 1)).length = n + 1 := by rw [List.length_take]; omega
    have hd : (l.take (n + 1)).drop i = (l.take (n + 1))[i]'(by omega) :: (l.take (n + 1)).drop (i + 1) := List.drop_eq_getElem_cons (by omega)
    have hg : (l.take (n + 1))[i]'(by omega) = l.getD i 0 := by
      rw [List.getElem_take, List.getD_eq_getElem?_getD, List.getElem?_eq_getElem (by omega)]
      rfl
    have hc : 0 ≤ l.getD i 0 ∧ l.getD i 0 < 256 := by
      have := hb.rd_ i
      rwa [rdn] at this
    have hv : val ((l.take (n + 1)).drop i) = (l.getD i 0).toNat % 128 + 128 * x := by rw [hd, hg, val, hx]
    have hv0 : val ((l.take (n + 1)).drop i) ≤ val (l.take (n + 1)) := by
      have : ∀ (m : Nat) (q : List Int), val (q.drop m) ≤ val q := by
        intro m
        induction m with
        | zero => intro q; simp
        | succ m ihm =>
          intro q
          cases q with
          | nil => simp
          | cons c t =>
            simp only [List.drop_succ_cons, val]
            have := ihm t
            omega
      exact this i _
    simp only [deckleref01_GetUint.l1]
    rw [show ((i + 1 : Nat) : Int) - 1 = (i : Int) by omega, if_pos (by omega), rdn]
    by_cases hbig : (x : Int) > 144115188075855871
    · rw [if_pos hbig, if_pos (by omega)]
    · rw [if_neg hbig, if_pos (by omega), if_pos (by omega)]
      have e : Int.tmod (l.getD i 0) 128 = l.getD i 0 % 128 := Int.tmod_eq_emod_of_nonneg hc.1
      rw [e, uw (n := 128 * (x : Int)) (by omega) (by omega), uw (n := l.getD i 0 % 128) (by omega) (by omega), uw (by omega) (by omega), w64 (by omega) (by omega)]
      rw [show (128 * (x : Int) + l.getD i 0 % 128) = ((val ((l.take (n + 1)).drop i) : Nat) : Int) by omega]
      exact ih k _ (by omega) rfl (by omega) (by omega)
/-- The scan, where the last byte of a number is at place n. -/
theorem scan_at (l : List Int) (hb : Bytes l) (n : Nat) (hn : n < l.length) (hn9 : n ≤ 9) (hlow : l.getD n 0 < 128) : ∀ d i, n - i = d → i ≤ n → (∀ j, i ≤ j → j < n → 128 ≤ l.getD j 0) →
    scan i (val (l.take i)) (l.drop i) = (if 18446744073709551616 ≤ val (l.take (n + 1)) then (0, 0, 7) else if 0 < n ∧ l.getD n 0 = 0 then (0, 0, 6) else ((val (l.take (n + 1)) : Int), ((n + 1 : Nat) : Int), 0)) := by
  have hcons : ∀ i, i < l.length → l.drop i = l.getD i 0 :: l.drop (i + 1) ∧ l.take (i + 1) = l.take i ++ [l.getD i 0] := by
    intro i hi
    have e : l.getD i 0 = l[i] := by rw [List.getD_eq_getElem?_getD, List.getElem?_eq_getElem hi]; rfl
    rw [e]
    exact ⟨List.drop_eq_getElem_cons hi, by rw [List.take_succ_eq_append_getElem hi]⟩
  have hc : ∀ i, 0 ≤ l.getD i 0 ∧ l.getD i 0 < 256 := fun i => by
    have := hb.rd_ i
    rwa [rdn] at this
  intro d
  induction d with
  | zero =>
    intro i hd hi hj
    obtain rfl : i = n := by omega
    obtain ⟨e1, e2⟩ := hcons i hn
    have hv := val_lt (l.take i)
    have hl : (l.take i).length = i := by rw [List.length_take]; omega
    rw [hl] at hv
    have hci := hc i
    rw [e1]
    simp only [scan]
    rw [e2, val_snoc, hl, if_neg (by omega), if_neg (by omega)]
    generalize l.getD i 0 = c at *
    rw [show c.toNat % 128 = c.toNat by omega]
    by_cases h9 : i = 9 ∧ c ≥ 2
    · rw [if_pos h9, if_pos]
      obtain ⟨rfl, h2⟩ := h9
      omega
    · have hnb : ¬ 18446744073709551616 ≤ val (l.take i) + c.toNat * 128 ^ i := by
        by_cases e9 : i = 9
        · subst e9
          omega
        · have hp8 : 128 ^ i ≤ 128 ^ 8 := Nat.pow_le_pow_right (by decide) (by omega)
          have hp8' : (128 : Nat) ^ 8 = 72057594037927936 := by decide
          have := Nat.mul_le_mul (show c.toNat ≤ 127 by omega) hp8
          omega
      rw [if_neg h9, if_neg hnb]
      by_cases h0 : c = 0 ∧ 0 < i
      · rw [if_pos h0, if_pos (show 0 < i ∧ c = 0 from ⟨h0.2, h0.1⟩)]
      · rw [if_neg h0, if_neg (show ¬ (0 < i ∧ c = 0) from fun z => h0 ⟨z.2, z.1⟩)]
  | succ d ih =>
    intro i hd hi hj
    obtain ⟨e1, e2⟩ := hcons i (by omega)
    have hl : (l.take i).length = i := by rw [List.length_take]; omega
    have h128 := hj i (Nat.le_refl _) (by omega)
    have hci := hc i
    rw [e1]
    simp only [scan]
    rw [if_neg (by omega), if_pos (by omega)]
    have hv : val (l.take i) + ((l.getD i 0).toNat - 128) * 128 ^ i = val (l.take (i + 1)) := by
      rw [e2, val_snoc, hl, show (l.getD i 0).toNat % 128 = (l.getD i 0).toNat - 128 by omega]
    rw [hv]
    exact ih (i + 1) (by omega) (by omega) (fun j a b => hj j (by omega) b)
theorem scan_none (l : List Int) (hb : Bytes l) : ∀ d i acc, min l.length 10 - i = d → i ≤ min l.length 10 → (∀ j, i ≤ j → j < min l.length 10 → 128 ≤ l.getD j 0) →
    scan i acc (l.drop i) = (0, 0, if 10 ≤ l.length then 7 else 5) := by
  intro d
  induction d with
  | zero =>
    intro i acc hd hi hj
    cases h : l.drop i with
    | nil =>
      simp only [scan]
      have := List.drop_eq_nil_iff.1 h
      by_cases h10 : 10 ≤ i
      · rw [if_pos h10, if_pos (by omega)]
      · rw [if_neg h10, if_neg (by omega)]
    | cons c t =>
      have hlt : i < l.length := by
        rcases Nat.lt_or_ge i l.length with z | z
        · exact z
        · rw [List.drop_eq_nil_of_le z] at h
          cases h
      simp only [scan]
      rw [if_pos (by omega), if_pos (by omega)]
  | succ d ih =>
    intro i acc hd hi hj
    have hlt : i < l.length := by omega
    have e : l.getD i 0 = l[i] := by rw [List.getD_eq_getElem?_getD, List.getElem?_eq_getElem hlt]; rfl
    have h128 := hj i (Nat.le_refl _) (by omega)
    rw [List.drop_eq_getElem_cons hlt, ← e]
    simp only [scan]
    rw [if_neg (by omega), if_pos (by omega)]
    exact ih (i + 1) _ (by omega) (by omega) (fun j a b => hj j (by omega) b)
theorem refGU_up (l : List Int) (hb : Bytes l) (hl : l.length ≤ 140737488351232) : ∀ d k i, min l.length 10 - i = d → i ≤ min l.length 10 → (∀ j, j < i → 128 ≤ l.getD j 0) → d + 14 < k →
    deckleref01_GetUint.l0 k l (i : Int) = some (gu l) := by
  have hc : ∀ i, 0 ≤ l.getD i 0 ∧ l.getD i 0 < 256 := fun i => by
    have := hb.rd_ i
    rwa [rdn] at this
  intro d
  induction d with
  | zero =>
    intro k i hd hi hj hk
    obtain ⟨k, rfl⟩ : ∃ m, k = m + 1 := ⟨k - 1, by omega⟩
    have hs : gu l = (0, 0, if 10 ≤ l.length then 7 else 5) := by
      have := scan_none l hb (min l.length 10) 0 0 (by omega) (by omega) (fun j _ b => hj j (by omega))
      simpa [gu] using this
    obtain ⟨k, rfl⟩ : ∃ m, k = m + 1 := ⟨k - 1, by omega⟩
    simp only [deckleref01_GetUint.l0, deckleref01_GetUint.j1]
    rw [hs]
    by_cases h10 : 10 ≤ l.length
    · rw [if_neg (by omega), if_pos (by omega), if_pos h10]
    · rw [if_pos (by omega), if_neg (by omega), if_neg (by omega), if_pos (by omega), if_neg h10]
  | succ d ih =>
    intro k i hd hi hj hk
    obtain ⟨k, rfl⟩ : ∃ m, k = m + 1 := ⟨k - 1, by omega⟩
    simp only [deckleref01_GetUint.l0]
    rw [if_pos (by omega), if_pos (by omega), if_pos (by omega), rdn]
    by_cases h : l.getD i 0 > 127
    · rw [if_pos h, w64 (by omega) (by omega)]
      refine ih k (i + 1) (by omega) (by omega) (fun j hlt => ?_) (by omega)
      by_cases e : j = i
      · subst e
        omega
      · exact hj j (by omega)
    · rw [if_neg h]
      obtain ⟨k, rfl⟩ : ∃ m, k = m + 1 := ⟨k - 1, by omega⟩
      simp only [deckleref01_GetUint.j1]
      rw [if_neg (by omega), if_neg (by omega)]
      have hs := scan_at l hb i (by omega) (by omega) (by omega) i 0 (by omega) (by omega) (fun j _ b => hj j b)
      have h1 := refGU_down l hb i (by omega) (by omega) (i + 1) k 0 (by omega) (by rw [List.drop_eq_nil_of_le (by rw [List.length_take]; omega)]; rfl) (by omega) (by omega)
      rw [show ((i + 1 : Nat) : Int) - 1 = (i : Int) by omega] at h1
      simp only [List.take_zero, List.drop_zero, val] at hs
      unfold gu
      rw [hs]
      exact h1
theorem refGetUint (l : List Int) (hb : Bytes l) (hl : l.length ≤ 140737488351232) (k : Nat) (hk : 30 ≤ k) : deckleref01_GetUint.f k l = some (gu l) := by
  unfold deckleref01_GetUint.f
  exact refGU_up l hb hl _ k 0 rfl (by omega) (fun j h => by omega) (by omega)
theorem refGetBytes (l : List Int) (hb : Bytes l) (hl : l.length ≤ 140737488351232) (m : Int) (hm : m ≤ 9223372036854775807) (k : Nat) (hk : 30 ≤ k) : deckleref01_GetBytes.f k l m = some (Wire.gb l m) := by
  unfold deckleref01_GetBytes.f Wire.gb
  rw [refGetUint l hb hl k hk]
  simp only [Option.bind_some]
  obtain ⟨k, rfl⟩ : ∃ q, k = q + 1 := ⟨k - 1, by omega⟩
  simp only [deckleref01_GetBytes.j0]
  by_cases h : (gu l).2.2 = 0
  · obtain ⟨x, _, h2, h3, h4, h5, h6⟩ := gu_ok hb h
    rw [if_pos h, if_neg (show ¬ (gu l).2.2 ≠ 0 from fun z => z h), h6]
    simp only
    by_cases hm0 : m < 0
    · rw [if_pos hm0, if_pos (show m < 0 ∨ (x : Int) > m from .inl hm0)]
      simp
    · rw [if_neg hm0, uw (n := m) (by omega) (by omega)]
      by_cases hx : (x : Int) > m
      · rw [if_pos (show m < 0 ∨ (x : Int) > m from .inr hx), if_pos (by simpa using hx)]
      · rw [if_neg (show ¬ (m < 0 ∨ (x : Int) > m) by omega), if_neg (by simpa using hx), w64 (n := (l.length : Int) - usz x) (by omega) (by omega), uw (n := (l.length : Int) - usz x) (by omega) (by omega)]
        by_cases hs : (x : Int) > (l.length : Int) - (usz x : Int)
        · rw [if_pos hs, if_pos hs]
        · rw [if_neg hs, if_neg hs, w64 (n := (x : Int)) (by omega) (by omega), w64 (n := (usz x : Int) + (x : Int)) (by omega) (by omega)]
          simp only [Option.bind_some]
          rw [if_pos (by omega), if_pos (by omega), if_pos (by omega), if_pos (by simp; omega)]
          rw [show ((usz x : Int) + (x : Int)).toNat = usz x + x by omega, show ((usz x : Int)).toNat = usz x by omega]
          simp
  · rw [if_neg h, if_pos h]
end Go.Proofs.YtciolchdihlgfaaDoor.ScG
