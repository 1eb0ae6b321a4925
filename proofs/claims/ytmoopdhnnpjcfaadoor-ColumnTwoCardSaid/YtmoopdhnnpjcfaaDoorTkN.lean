import Derived.Test.YtmoopdhnnpjcfaaDoorTkD
/-! Column: cells are taken of their bytes. -/
namespace Go.Proofs.YtmoopdhnnpjcfaaDoor.Co
open Go.RowKit Go.Proofs.YtmoopdhnnpjcfaaDoorW.PrintWords Go.Proofs.YtmoopdhnnpjcfaaDoorW.PrintLast Go.Proofs.YtmoopdhnnpjcfaaDoorW.PrintMore Go.Proofs.YtmoopdhnnpjcfaaDoor.Wire Go.Proofs.YtmoopdhnnpjcfaaDoor.PCo Go.Proofs.YtmoopdhnnpjcfaaDoor.CoG Go.Proofs.YtmoopdhnnpjcfaaDoor.Rd
set_option linter.unusedVariables false
set_option linter.unusedSimpArgs false
set_option maxRecDepth 100000
theorem cell_at {cs : List S47} {j : Nat} (h : j < cs.length) : cs[j]? = some ⟨nm cs j, tx cs j⟩ := by
  have : rd_T47 cs (j : Int) = cs[j] := by
    unfold rd_T47
    rw [Int.toNat_natCast, List.getD_eq_getElem?_getD, List.getElem?_eq_getElem h]; rfl
  unfold nm tx
  rw [this, List.getElem?_eq_getElem h]
theorem take_cell {cs : List S47} {j : Nat} (h : j < cs.length) : cs.take (j + 1) = cs.take j ++ [⟨nm cs j, tx cs j⟩] := by
  rw [List.take_add_one, cell_at h]; rfl
theorem fe_all {k : Int} {l : List S47} : ∀ {n : Nat}, fe k l n = 0 → ∀ j, j < n → chk k (nm l j) (tx l j) = 0
  | 0, _, j, h => absurd h (Nat.not_lt_zero _)
  | n + 1, hf, j, h => by
    rw [fe] at hf
    by_cases e : fe k l n = 0
    · rw [if_neg (by rw [e]; simp)] at hf
      by_cases hj : j = n
      · subst hj; exact hf
      · exact fe_all e j (by omega)
    · rw [if_pos e] at hf; exact absurd hf e
theorem chk_num {k num : Int} {s : ByteArray} (h : chk k num s = 0) (hk : ¬(k = 3 ∨ k = 4)) : s = e0 ∧ (k = 2 → num ≤ 1) := by
  unfold chk at h
  by_cases h0 : k < 0 ∨ 5 < k
  · rw [if_pos h0] at h; simp at h
  · rw [if_neg h0, if_neg hk] at h
    by_cases h1 : s.size ≠ 0
    · rw [if_pos h1] at h; simp at h
    · rw [if_neg h1] at h
      by_cases h2 : k = 2 ∧ 1 < num
      · rw [if_pos h2] at h; simp at h
      · exact ⟨size_zero (Decidable.not_not.1 h1), fun e => by omega⟩
theorem chk_text {k num : Int} {s : ByteArray} (h : chk k num s = 0) (hk : k = 3 ∨ k = 4) : num = 0 ∧ s.size ≤ 256 ∧ (k = 4 → Lib.validD s.data.toList = true) := by
  unfold chk at h
  by_cases h0 : k < 0 ∨ 5 < k
  · rw [if_pos h0] at h; simp at h
  · rw [if_neg h0, if_pos hk] at h
    by_cases h1 : num ≠ 0
    · rw [if_pos h1] at h; simp at h
    · rw [if_neg h1] at h
      by_cases h2 : k = 4 ∧ Lib.validD s.data.toList = false
      · rw [if_pos h2] at h; simp at h
      · rw [if_neg h2] at h
        by_cases h3 : 256 < s.size
        · rw [if_pos h3] at h; simp at h
        · refine ⟨Decidable.not_not.1 h1, by omega, fun e => ?_⟩
          cases hv : Lib.validD s.data.toList with
          | true => rfl
          | false => exact absurd ⟨e, hv⟩ h2
/-! numbers -/
theorem nxt_back {a b : Int} (ha : 0 ≤ a ∧ a < 18446744073709551616) (hb : 0 ≤ b ∧ b < 18446744073709551616) : nxt a (zigS (wrap64 (IntKind.u64.wrap (b - a)))) = b := by
  unfold nxt
  rw [zag_zig, IntKind.wrap_u64, IntKind.wrap_u64, IntKind.wrap_u64]
  unfold wrap64
  omega
theorem nbs_pre (l : List S47) (last : Int) (i : Nat) {j m : Nat} (h : j ≤ m) : ∃ t, nbs l last i m = nbs l last i j ++ t := by
  induction m with
  | zero => obtain rfl : j = 0 := by omega
            exact ⟨[], rfl⟩
  | succ m ih =>
    by_cases e : j = m + 1
    · subst e; exact ⟨[], by simp⟩
    · obtain ⟨t, ht⟩ := ih (by omega)
      exact ⟨t ++ dlt (if m = 0 then last else nm l (i + m - 1)) (nm l (i + m)), by rw [nbs, ht, List.append_assoc]⟩
theorem drop_pre {L P T : List Int} {a : Nat} (h : L.drop a = P ++ T) : L.drop (a + P.length) = T := by
  rw [← List.drop_drop, h, List.drop_left' rfl]
theorem tnx_back {L B : List Int} {cs : List S47} (last : Int) (hl : 0 ≤ last ∧ last < 18446744073709551616) (a0 i m : Nat) (him : i + m ≤ cs.length) (hnum : ∀ j, j < cs.length → 0 ≤ nm cs j ∧ nm cs j < 18446744073709551616) (htx : ∀ j, j < cs.length → tx cs j = e0)
    (h : L.drop a0 = nbs cs last i m ++ B) : ∀ d j, m - j = d → j ≤ m → tnx L (m - j) (a0 + (nbs cs last i j).length) (if j = 0 then last else nm cs (i + j - 1)) (cs.take (i + j)) = (cs.take (i + m), a0 + (nbs cs last i m).length, 0) := by
  intro d
  induction d with
  | zero =>
    intro j hd hj
    obtain rfl : j = m := by omega
    rw [Nat.sub_self]; rfl
  | succ d ih =>
    intro j hd hj
    obtain ⟨q, hq⟩ : ∃ q, m - j = q + 1 := ⟨m - j - 1, by omega⟩
    obtain ⟨t, ht⟩ := nbs_pre cs last i (show j + 1 ≤ m by omega)
    have hpre : 0 ≤ (if j = 0 then last else nm cs (i + j - 1)) ∧ (if j = 0 then last else nm cs (i + j - 1)) < 18446744073709551616 := by
      split
      · exact hl
      · exact hnum _ (by omega)
    obtain ⟨p, hp⟩ : ∃ p, (if j = 0 then last else nm cs (i + j - 1)) = p := ⟨_, rfl⟩
    rw [hp] at hpre ⊢
    have hdrop : L.drop (a0 + (nbs cs last i j).length) = dlt p (nm cs (i + j)) ++ (t ++ B) := by
      rw [ht, nbs, hp, List.append_assoc, List.append_assoc] at h
      exact drop_pre h
    have hw := wrap64_range (IntKind.u64.wrap (nm cs (i + j) - p))
    have hz := zig_range hw.1 hw.2
    have hn := hnum (i + j) (by omega)
    obtain ⟨g1, g2, g3⟩ := g_at (x := (zigS (wrap64 (IntKind.u64.wrap (nm cs (i + j) - p)))).toNat) (by omega) hdrop
    rw [Int.toNat_of_nonneg hz.1] at g2
    rw [hq, tnx, if_pos g1, g2, nxt_back hpre hn, g3]
    have := ih (j + 1) (by omega) (by omega)
    rw [if_neg (by omega), show i + (j + 1) - 1 = i + j by omega, show m - (j + 1) = q by omega, show i + (j + 1) = i + j + 1 by omega, take_cell (by omega), htx _ (by omega), nbs, hp, List.length_append] at this
    rw [← this, ← Nat.add_assoc]
    rfl
theorem tsig_back {L B : List Int} {cs : List S47} (a0 : Nat) (hnum : ∀ j, j < cs.length → 0 ≤ nm cs j ∧ nm cs j < 18446744073709551616) (htx : ∀ j, j < cs.length → tx cs j = e0) (h : L.drop a0 = nbs cs 0 0 cs.length ++ B) :
    tnx L cs.length a0 0 [] = (cs, a0 + (nbs cs 0 0 cs.length).length, 0) := by
  have := tnx_back 0 (by decide) a0 0 cs.length (by omega) hnum htx h cs.length 0 (by omega) (by omega)
  simpa [nbs] using this
theorem tnum_back {L B : List Int} {cs : List S47} (a0 : Nat) (hnum : ∀ j, j < cs.length → 0 ≤ nm cs j ∧ nm cs j < 18446744073709551616) (htx : ∀ j, j < cs.length → tx cs j = e0) (h : L.drop a0 = nums cs ++ B) :
    tnum L cs.length a0 = (cs, a0 + (nums cs).length, 0) := by
  unfold tnum nums at *
  by_cases e : cs.length = 0
  · rw [if_pos e, if_pos e]
    have : cs = [] := List.eq_nil_of_length_eq_zero e
    rw [this]; rfl
  · rw [if_neg e] at h ⊢
    have hn := hnum 0 (by omega)
    rw [List.append_assoc] at h
    obtain ⟨g1, g2, g3⟩ := g_at (x := (nm cs 0).toNat) (by omega) h
    rw [Int.toNat_of_nonneg hn.1] at g2
    rw [if_neg e, if_pos g1, g2, g3]
    have h2 := drop_pre h
    have := tnx_back (nm cs 0) hn (a0 + (uv (nm cs 0).toNat).length) 1 (cs.length - 1) (by omega) hnum htx h2 (cs.length - 1) 0 (by omega) (by omega)
    have t1 : cs.take 1 = [⟨nm cs 0, e0⟩] := by
      have := take_cell (cs := cs) (j := 0) (by omega)
      rw [htx 0 (by omega)] at this
      simpa using this
    rw [if_pos rfl, show 1 + 0 = 1 from rfl, t1, show 1 + (cs.length - 1) = cs.length by omega, List.take_length, Nat.sub_zero] at this
    simp only [nbs, List.length_nil, Nat.add_zero] at this
    rw [List.length_append, ← Nat.add_assoc]
    exact this
/-! texts -/
theorem str_bytes_ (s : ByteArray) : strOfNums (bytesOf s) = s := by
  refine ByteArray.ext (Array.toList_inj.1 ?_)
  rw [strOfNums_data]
  unfold bytesOf
  rw [List.map_map]
  refine (List.map_congr_left (g := id) fun x _ => ?_).trans (List.map_id _)
  show UInt8.ofNat ((x.toNat : Int).toNat) = x
  rw [Int.toNat_natCast]
  exact UInt8.ofNat_toNat
theorem tt_back (a s : ByteArray) : a.extract 0 (shared a s) ++ strOfNums (rest a s) = s := by
  have h1 : strOfNums (rest a s) = s.extract (shared a s) s.size := by
    rw [show rest a s = bytesOf (s.extract (shared a s) s.size) from (bytes_rest s _).symm, str_bytes_]
  rw [h1]
  refine ByteArray.ext (Array.toList_inj.1 ?_)
  rw [ByteArray.data_append, Array.toList_append, ByteArray.data_extract, ByteArray.data_extract, Array.toList_extract, Array.toList_extract]
  simp only [List.extract_eq_take_drop, List.drop_zero, Nat.sub_zero]
  have h2 := shr_take a.data.toList s.data.toList
  have h3 := (shared_le a s).2
  rw [show shared a s = shr a.data.toList s.data.toList from rfl] at *
  rw [h2, List.take_of_length_le (i := s.size - shr a.data.toList s.data.toList) (by rw [List.length_drop, data_length]; exact Nat.le_refl _), List.take_append_drop]
theorem txs_pre (l : List S47) {j m : Nat} (h : j ≤ m) : ∃ t, txs l m = txs l j ++ t := by
  induction m with
  | zero => obtain rfl : j = 0 := by omega
            exact ⟨[], rfl⟩
  | succ m ih =>
    by_cases e : j = m + 1
    · subst e; exact ⟨[], by simp⟩
    · obtain ⟨t, ht⟩ := ih (by omega)
      exact ⟨t ++ tpart (lastT l m) (tx l m), by rw [txs, ht, List.append_assoc]⟩
/-- What one text's bytes tell. -/
theorem text_at {L T : List Int} {a : Nat} {last s : ByteArray} (hs : s.size ≤ 256) (h : L.drop a = tpart last s ++ T) :
    ge L a = 0 ∧ gx L a = (shared last s : Int) ∧ be L (a + gk L a) (256 - gx L a) = 0 ∧ tt L a last = s ∧ ta L a = a + (tpart last s).length := by
  have hsh := shared_le last s
  unfold tpart at h
  rw [List.append_assoc] at h
  obtain ⟨g1, g2, g3⟩ := g_at (x := shared last s) (by omega) h
  have h2 := drop_pre h
  rw [show (uv (shared last s)).length = gk L a from g3.symm, List.append_assoc] at h2
  have hr := rest_len last s
  obtain ⟨b1, b2, b3⟩ := b_at (m := 256 - gx L a) (by rw [g2, hr]; omega) (by omega) h2
  refine ⟨g1, g2, b1, ?_, ?_⟩
  · unfold tt
    rw [b2, g2, Int.toNat_natCast]
    exact tt_back last s
  · unfold ta tpart
    rw [b3, g3, List.length_append, List.length_append, List.length_append]
    unfold usz
    omega
theorem ttx_back {L B : List Int} {cs : List S47} (strict : Bool) (a0 : Nat) (hc : ∀ j, j < cs.length → nm cs j = 0 ∧ (tx cs j).size ≤ 256 ∧ (strict = true → Lib.validD (tx cs j).data.toList = true))
    (h : L.drop a0 = txs cs cs.length ++ B) : ∀ d j, cs.length - j = d → j ≤ cs.length → ttx L strict (cs.length - j) (a0 + (txs cs j).length) (lastT cs j) (cs.take j) = (cs, a0 + (txs cs cs.length).length, 0) := by
  intro d
  induction d with
  | zero =>
    intro j hd hj
    obtain rfl : j = cs.length := by omega
    rw [Nat.sub_self, List.take_length]; rfl
  | succ d ih =>
    intro j hd hj
    obtain ⟨q, hq⟩ : ∃ q, cs.length - j = q + 1 := ⟨cs.length - j - 1, by omega⟩
    obtain ⟨t, ht⟩ := txs_pre cs (show j + 1 ≤ cs.length by omega)
    obtain ⟨hn, hs, hv⟩ := hc j (by omega)
    have hdrop : L.drop (a0 + (txs cs j).length) = tpart (lastT cs j) (tx cs j) ++ (t ++ B) := by
      rw [ht, txs, List.append_assoc, List.append_assoc] at h
      exact drop_pre h
    obtain ⟨g1, g2, b1, e1, e2⟩ := text_at hs hdrop
    have hsh := shared_le (lastT cs j) (tx cs j)
    rw [hq, ttx, if_neg (by rw [g1]; simp), if_neg (by rw [g2]; omega), if_neg (by rw [b1]; simp), e1, if_neg (by rw [g2, Int.toNat_natCast]; simp), if_neg, e2]
    · have := ih (j + 1) (by omega) (by omega)
      rw [show cs.length - (j + 1) = q by omega, take_cell (by omega), hn, txs, List.length_append, ← Nat.add_assoc] at this
      exact this
    · rintro ⟨s1, s2⟩
      rw [hv s1] at s2
      cases s2
theorem text_back {L B : List Int} {cs : List S47} (strict : Bool) (a0 : Nat) (hc : ∀ j, j < cs.length → nm cs j = 0 ∧ (tx cs j).size ≤ 256 ∧ (strict = true → Lib.validD (tx cs j).data.toList = true))
    (h : L.drop a0 = txs cs cs.length ++ B) : ttx L strict cs.length a0 e0 [] = (cs, a0 + (txs cs cs.length).length, 0) := by
  have := ttx_back strict a0 hc h cs.length 0 (by omega) (by omega)
  simpa [txs, lastT] using this
/-! bools -/
def bs (l : List S47) (o : Nat) : Nat → Int
  | 0 => 0
  | r + 1 => bs l o r + nm l (o + r) * 2 ^ r
theorem bs_lt {l : List S47} {o : Nat} : ∀ w, (∀ r, r < w → 0 ≤ nm l (o + r) ∧ nm l (o + r) ≤ 1) → 0 ≤ bs l o w ∧ bs l o w < 2 ^ w
  | 0, _ => by simp [bs]
  | w + 1, h => by
    have := bs_lt w (fun r hr => h r (by omega))
    have h1 := h w (by omega)
    rw [bs, Int.pow_succ]
    rcases (show nm l (o + w) = 0 ∨ nm l (o + w) = 1 by omega) with e | e <;> rw [e] <;> omega
theorem bs_bit {l : List S47} {o : Nat} : ∀ w, (∀ r, r < w → 0 ≤ nm l (o + r) ∧ nm l (o + r) ≤ 1) → ∀ r, r < w → bs l o w / 2 ^ r % 2 = nm l (o + r)
  | 0, _, r, hr => absurd hr (Nat.not_lt_zero _)
  | w + 1, h, r, hr => by
    have hlt := bs_lt w (fun r hr => h r (by omega))
    have h1 := h w (by omega)
    rw [bs]
    by_cases e : r = w
    · subst e
      have hp : (0 : Int) < 2 ^ r := Int.pow_pos (by decide)
      rw [Int.add_mul_ediv_right _ _ (by omega), Int.ediv_eq_zero_of_lt hlt.1 hlt.2]
      omega
    · have ih := bs_bit w (fun r hr => h r (by omega)) r (by omega)
      obtain ⟨d, hd⟩ : ∃ d, w = r + (d + 1) := ⟨w - r - 1, by omega⟩
      have hp : (0 : Int) < 2 ^ r := Int.pow_pos (by decide)
      have e2 : nm l (o + w) * 2 ^ w = nm l (o + w) * 2 ^ d * 2 * 2 ^ r := by
        rw [hd, Int.pow_add, Int.pow_succ, Int.mul_comm (2 ^ r) (2 ^ d * 2), ← Int.mul_assoc, ← Int.mul_assoc]
      rw [e2, Int.add_mul_ediv_right _ _ (by omega), Int.add_mul_emod_self_right, ih]
theorem or_bit : ∀ x : Fin 256, ∀ r : Fin 8, x.val < 2 ^ r.val → bits .or .u8 (x.val : Int) (((2 ^ r.val : Nat) : Int)) = ((x.val + 2 ^ r.val : Nat) : Int) ∧ bits .or .u8 (x.val : Int) 0 = (x.val : Int) := by decide +kernel
theorem or_bit_ {x b : Int} {r : Nat} (hx : 0 ≤ x) (hr : r < 8) (hlt : x < 2 ^ r) (hb : 0 ≤ b ∧ b ≤ 1) : bits .or .u8 x (shl .u8 (b % 256) (r : Int)) = x + b * 2 ^ r := by
  obtain ⟨n, rfl⟩ := Int.eq_ofNat_of_zero_le hx
  have hp : (2 : Nat) ^ r ≤ 2 ^ 7 := Nat.pow_le_pow_right (by decide) (by omega)
  have hn : n < 2 ^ r := by have : ((n : Nat) : Int) < ((2 ^ r : Nat) : Int) := by simpa using hlt
                            omega
  have h2 := or_bit ⟨n, by omega⟩ ⟨r, hr⟩ hn
  dsimp only at h2
  rw [shl_at hr]
  rcases (show b = 0 ∨ b = 1 by omega) with rfl | rfl
  · rw [show (0 : Int) % 256 * 2 ^ r % 256 = 0 by simp, h2.2]; simp
  · rw [show (1 : Int) % 256 * 2 ^ r % 256 = ((2 ^ r : Nat) : Int) from by
      have : ((2 ^ r : Nat) : Int) = (2 : Int) ^ r := by simp
      rw [show (1 : Int) % 256 = 1 from rfl, Int.one_mul, ← this]; omega, h2.1]
    simp
theorem wb_at (l : List S47) (m : Nat) (hnm : ∀ j, j < l.length → 0 ≤ nm l j ∧ nm l j ≤ 1) : ∀ j, j ≤ l.length → j ≤ 8 * m → ∀ q, q < m → (wb l m j)[q]? = some (bs l (8 * q) (min 8 (j - 8 * q)))
  | 0, _, _, q, hq => by rw [wb, List.getElem?_replicate, if_pos hq]; simp [bs]
  | j + 1, hj, hm, q, hq => by
    have ih := wb_at l m hnm j (by omega) (by omega)
    rw [wb]
    by_cases e : q = j / 8
    · subst e
      have hrd : rd (wb l m j) ((j / 8 : Nat) : Int) = bs l (8 * (j / 8)) (j % 8) := by
        unfold rd
        rw [Int.toNat_natCast, List.getD_eq_getElem?_getD, ih (j / 8) hq, show min 8 (j - 8 * (j / 8)) = j % 8 by omega]; rfl
      rw [List.getElem?_set_self (by rw [wb_len]; exact hq), hrd]
      have hl := bs_lt (l := l) (o := 8 * (j / 8)) (j % 8) (fun r hr => hnm _ (by omega))
      have hn := hnm j (by omega)
      rw [or_bit_ hl.1 (by omega) hl.2 hn, show min 8 (j + 1 - 8 * (j / 8)) = j % 8 + 1 by omega, bs, show 8 * (j / 8) + j % 8 = j by omega]
    · rw [List.getElem?_set_ne (by omega), ih q hq]
      congr 2
      omega
theorem row8_bs {l : List S47} {o w : Nat} (h : ∀ r, r < w → 0 ≤ nm l (o + r) ∧ nm l (o + r) ≤ 1) (ht : ∀ r, r < w → o + r < l.length ∧ tx l (o + r) = e0) : ∀ k, k ≤ w → l.take o ++ row8 (bs l o w) k = l.take (o + k)
  | 0, _ => by simp [row8]
  | k + 1, hk => by
    have hb : bitc (bs l o w) k = ⟨nm l (o + k), e0⟩ := by unfold bitc; rw [bs_bit w h k (by omega)]
    rw [row8, ← List.append_assoc, row8_bs h ht k (by omega), hb, ← (ht k (by omega)).2]
    exact (take_cell (ht k (by omega)).1).symm
theorem tb_back {L B : List Int} {cs : List S47} (a0 : Nat) (hnm : ∀ j, j < cs.length → 0 ≤ nm cs j ∧ nm cs j ≤ 1) (htx : ∀ j, j < cs.length → tx cs j = e0)
    (h : L.drop a0 = wb cs ((cs.length + 7) / 8) cs.length ++ B) : ∀ d q f, (cs.length + 7) / 8 - q = d → q ≤ (cs.length + 7) / 8 → d < f → tb L cs.length f (a0 + q) (cs.take (8 * q)) = (cs, a0 + (cs.length + 7) / 8, 0) := by
  intro d
  induction d with
  | zero =>
    intro q f hd hq hf
    obtain rfl : q = (cs.length + 7) / 8 := by omega
    obtain ⟨f, rfl⟩ : ∃ x, f = x + 1 := ⟨f - 1, by omega⟩
    rw [List.take_of_length_le (by omega), tb, if_neg (by omega)]
  | succ d ih =>
    intro q f hd hq hf
    obtain ⟨f, rfl⟩ : ∃ x, f = x + 1 := ⟨f - 1, by omega⟩
    have hlen := congrArg List.length h
    rw [List.length_drop, List.length_append, wb_len] at hlen
    have hl : (cs.take (8 * q)).length = 8 * q := by rw [List.length_take]; omega
    have hw := wb_at cs ((cs.length + 7) / 8) hnm cs.length (Nat.le_refl _) (by omega) q (by omega)
    obtain ⟨w, hwe⟩ : ∃ w, min 8 (cs.length - 8 * q) = w := ⟨_, rfl⟩
    have hrd : rd L ((a0 + q : Nat) : Int) = bs cs (8 * q) w := by
      unfold rd
      rw [Int.toNat_natCast, List.getD_eq_getElem?_getD, ← List.getElem?_drop, h, List.getElem?_append_left (by rw [wb_len]; omega), hw, hwe]; rfl
    have hbn : ∀ r, r < w → 0 ≤ nm cs (8 * q + r) ∧ nm cs (8 * q + r) ≤ 1 := fun r hr => hnm _ (by omega)
    have hlt := bs_lt (l := cs) (o := 8 * q) w hbn
    rw [tb, hl, hwe, if_pos (by omega), if_pos (by omega), hrd, if_pos (Int.ediv_eq_zero_of_lt hlt.1 hlt.2), row8_bs hbn (fun r hr => ⟨by omega, htx _ (by omega)⟩) w (Nat.le_refl _)]
    have := ih (q + 1) f (by omega) (by omega) (by omega)
    rw [Nat.add_assoc, ← this]
    congr 1
    by_cases h8 : w = 8
    · rw [h8, Nat.mul_succ]
    · rw [List.take_of_length_le (by omega), List.take_of_length_le (by omega)]
/-! ### all kinds -/
theorem tk_back {L B : List Int} {k : Int} {cs : List S47} (a0 : Nat) (hk : 0 ≤ k ∧ k ≤ 5) (hn : cs.length ≤ 1024) (hf : fe k cs cs.length = 0) (hnum : ∀ j, j < cs.length → 0 ≤ nm cs j ∧ nm cs j < 18446744073709551616)
    (h : L.drop a0 = wrote k cs ++ B) : tk L k (cs.length : Int) a0 = (cs, a0 + (wrote k cs).length, 0) := by
  have hc := fe_all hf
  unfold tk
  rw [if_neg (by omega), if_neg (by omega), Int.toNat_natCast]
  by_cases h0 : k = 0
  · subst h0
    rw [if_pos rfl]
    rw [wrote, if_pos rfl] at h ⊢
    exact tsig_back a0 hnum (fun j hj => (chk_num (hc j hj) (by decide)).1) h
  · rw [if_neg h0]
    by_cases h2 : k = 2
    · subst h2
      rw [if_pos rfl]
      rw [wrote, if_neg (by decide), if_pos rfl] at h ⊢
      rw [wb_len]
      have := tb_back a0 (fun j hj => ⟨(hnum j hj).1, (chk_num (hc j hj) (by decide)).2 rfl⟩) (fun j hj => (chk_num (hc j hj) (by decide)).1) h ((cs.length + 7) / 8) 0 (cs.length + 1) (by omega) (by omega) (by omega)
      simpa using this
    · rw [if_neg h2]
      by_cases h3 : k = 3
      · subst h3
        rw [if_pos rfl]
        rw [wrote, if_neg (by decide), if_neg (by decide), if_pos (by decide)] at h ⊢
        exact text_back false a0 (fun j hj => by have := chk_text (hc j hj) (.inl rfl); exact ⟨this.1, this.2.1, fun z => by cases z⟩) h
      · rw [if_neg h3]
        by_cases h4 : k = 4
        · subst h4
          rw [if_pos rfl]
          rw [wrote, if_neg (by decide), if_neg (by decide), if_pos (by decide)] at h ⊢
          exact text_back true a0 (fun j hj => by have := chk_text (hc j hj) (.inr rfl); exact ⟨this.1, this.2.1, fun _ => this.2.2 rfl⟩) h
        · rw [if_neg h4]
          rw [wrote, if_neg h0, if_neg h2, if_neg (by omega)] at h ⊢
          exact tnum_back a0 hnum (fun j hj => (chk_num (hc j hj) (by omega)).1) h
end Go.Proofs.YtmoopdhnnpjcfaaDoor.Co
