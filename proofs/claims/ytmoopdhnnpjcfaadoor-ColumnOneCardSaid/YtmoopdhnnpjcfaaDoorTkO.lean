import Derived.Test.YtmoopdhnnpjcfaaDoorTkN
/-! Column: cells that are taken of bytes have those bytes. -/
namespace Go.Proofs.YtmoopdhnnpjcfaaDoor.Co
open Go.RowKit Go.Proofs.YtmoopdhnnpjcfaaDoorW.PrintWords Go.Proofs.YtmoopdhnnpjcfaaDoorW.PrintLast Go.Proofs.YtmoopdhnnpjcfaaDoorW.PrintMore Go.Proofs.YtmoopdhnnpjcfaaDoor.Wire Go.Proofs.YtmoopdhnnpjcfaaDoor.PCo Go.Proofs.YtmoopdhnnpjcfaaDoor.CoG Go.Proofs.YtmoopdhnnpjcfaaDoor.Rd
set_option linter.unusedVariables false
set_option linter.unusedSimpArgs false
set_option maxRecDepth 100000
theorem fe_of {k : Int} {l : List S47} : ∀ {n : Nat}, (∀ j, j < n → chk k (nm l j) (tx l j) = 0) → fe k l n = 0
  | 0, _ => rfl
  | n + 1, h => by rw [fe, fe_of (fun j hj => h j (by omega)), if_neg (by decide), h n (by omega)]
theorem chk_num_of {k num : Int} (hk : 0 ≤ k ∧ k ≤ 5) (h34 : ¬(k = 3 ∨ k = 4)) (h2 : k = 2 → num ≤ 1) : chk k num e0 = 0 := by
  unfold chk
  rw [if_neg (by omega), if_neg h34, if_neg (by decide), if_neg (by omega)]
theorem chk_text_of {k : Int} {s : ByteArray} (h34 : k = 3 ∨ k = 4) (hs : s.size ≤ 256) (hv : k = 4 → Lib.validD s.data.toList = true) : chk k 0 s = 0 := by
  unfold chk
  rw [if_neg (by omega), if_pos h34, if_neg (by decide), if_neg, if_neg (by omega)]
  rintro ⟨h, hf⟩
  rw [hv h] at hf
  cases hf
theorem take_split (L : List Int) {a b c : Nat} (h1 : a ≤ b) (h2 : b ≤ c) : (L.drop a).take (c - a) = (L.drop a).take (b - a) ++ (L.drop b).take (c - b) := by
  rw [show c - a = (b - a) + (c - b) by omega, List.take_add, List.drop_drop, show a + (b - a) = b by omega]
/-! numbers -/
def del : Int → List S47 → List Int
  | _, [] => []
  | last, y :: t => dlt last y.f0 ++ del y.f0 t
def lst : Int → List S47 → Int
  | last, [] => last
  | _, y :: t => lst y.f0 t
theorem del_snoc : ∀ (ys : List S47) (last : Int) (y : S47), del last (ys ++ [y]) = del last ys ++ dlt (lst last ys) y.f0
  | [], last, y => by simp [del, lst]
  | x :: ys, last, y => by rw [List.cons_append, del, del_snoc ys, del, lst, List.append_assoc]
theorem lst_snoc : ∀ (ys : List S47) (last : Int) (y : S47), lst last (ys ++ [y]) = y.f0
  | [], _, _ => rfl
  | x :: ys, last, y => by rw [List.cons_append, lst, lst_snoc ys]
theorem nm_drop (cs : List S47) (i m : Nat) : nm (cs.drop i) m = nm cs (i + m) := by unfold nm; rw [rd_drop]
theorem tx_drop (cs : List S47) (i m : Nat) : tx (cs.drop i) m = tx cs (i + m) := by unfold tx; rw [rd_drop]
theorem nbs_del (cs : List S47) (last : Int) (i : Nat) : ∀ m, i + m ≤ cs.length → nbs cs last i m = del last ((cs.drop i).take m) ∧ lst last ((cs.drop i).take m) = (if m = 0 then last else nm cs (i + m - 1))
  | 0, _ => ⟨rfl, rfl⟩
  | m + 1, h => by
    obtain ⟨h1, h2⟩ := nbs_del cs last i m (by omega)
    have hm : m < (cs.drop i).length := by rw [List.length_drop]; omega
    refine ⟨?_, ?_⟩
    · rw [take_cell hm, del_snoc, h2, ← h1]
      show nbs cs last i (m + 1) = nbs cs last i m ++ dlt _ (nm (cs.drop i) m)
      rw [nm_drop]; rfl
    · rw [take_cell hm, lst_snoc, if_neg (by omega)]
      show nm (cs.drop i) m = _
      rw [nm_drop]; rfl
theorem dlt_nxt {last x : Int} (hl : 0 ≤ last ∧ last < 18446744073709551616) (hx : 0 ≤ x ∧ x < 18446744073709551616) : dlt last (nxt last x) = uv x.toNat := by
  have hz := zag_range hx.1 hx.2
  have : wrap64 (IntKind.u64.wrap (nxt last x - last)) = zagS x := by
    unfold nxt
    obtain ⟨z, hzz⟩ : ∃ z, zagS x = z := ⟨_, rfl⟩
    rw [hzz] at hz ⊢
    rw [IntKind.wrap_u64, IntKind.wrap_u64, IntKind.wrap_u64]
    unfold wrap64
    omega
  rw [dlt, this, zig_zag hx.1]
theorem nxt_range (last x : Int) : 0 ≤ nxt last x ∧ nxt last x < 18446744073709551616 := by unfold nxt; rw [IntKind.wrap_u64]; omega
theorem tnx_one {l : List Int} (hb : Bytes l) : ∀ m a last xs cs a', a ≤ l.length → (0 ≤ last ∧ last < 18446744073709551616) → tnx l m a last xs = (cs, a', 0) →
    ∃ ys, cs = xs ++ ys ∧ ys.length = m ∧ a ≤ a' ∧ a' ≤ l.length ∧ (l.drop a).take (a' - a) = del last ys ∧ ∀ y ∈ ys, y.f1 = e0 ∧ 0 ≤ y.f0 ∧ y.f0 < 18446744073709551616
  | 0, a, last, xs, cs, a', ha, _, h => by
    rw [tnx] at h
    simp only [Prod.mk.injEq] at h
    obtain ⟨rfl, rfl, -⟩ := h
    exact ⟨[], by simp, rfl, Nat.le_refl _, ha, by simp [del], by simp⟩
  | m + 1, a, last, xs, cs, a', ha, hl, h => by
    rw [tnx] at h
    by_cases he : ge l a = 0
    · rw [if_pos he] at h
      obtain ⟨-, hx0, hx1, -, -, hk, hu⟩ := g_ok hb ha he
      have hn := nxt_range last (gx l a)
      obtain ⟨ys, rfl, h2, h3, h4, h5, h6⟩ := tnx_one hb m _ _ _ cs a' hk hn h
      refine ⟨⟨nxt last (gx l a), e0⟩ :: ys, by simp, by simp [h2], by omega, h4, ?_, ?_⟩
      · rw [take_split l (show a ≤ a + gk l a by omega) h3, h5, del, dlt_nxt hl ⟨hx0, hx1⟩, hu, show a + gk l a - a = gk l a by omega]
      · intro y hy
        rcases List.mem_cons.1 hy with rfl | hy
        · exact ⟨rfl, hn⟩
        · exact h6 y hy
    · rw [if_neg he] at h
      simp only [Prod.mk.injEq] at h
      exact absurd h.2.2 he
/-! texts -/
def tel : ByteArray → List S47 → List Int
  | _, [] => []
  | last, y :: t => tpart last y.f1 ++ tel y.f1 t
def lsx : ByteArray → List S47 → ByteArray
  | last, [] => last
  | _, y :: t => lsx y.f1 t
theorem tel_snoc : ∀ (ys : List S47) (last : ByteArray) (y : S47), tel last (ys ++ [y]) = tel last ys ++ tpart (lsx last ys) y.f1
  | [], last, y => by simp [tel, lsx]
  | x :: ys, last, y => by rw [List.cons_append, tel, tel_snoc ys, tel, lsx, List.append_assoc]
theorem lsx_snoc : ∀ (ys : List S47) (last : ByteArray) (y : S47), lsx last (ys ++ [y]) = y.f1
  | [], _, _ => rfl
  | x :: ys, last, y => by rw [List.cons_append, lsx, lsx_snoc ys]
theorem txs_tel (cs : List S47) : ∀ m, m ≤ cs.length → txs cs m = tel e0 (cs.take m) ∧ lsx e0 (cs.take m) = lastT cs m
  | 0, _ => ⟨rfl, rfl⟩
  | m + 1, h => by
    obtain ⟨h1, h2⟩ := txs_tel cs m (by omega)
    rw [take_cell (by omega), tel_snoc, lsx_snoc, h2, ← h1, txs]
    exact ⟨rfl, by unfold lastT; rw [if_neg (by omega)]; rfl⟩
theorem bytes_nums {p : List Int} (h : Bytes p) : bytesOf (strOfNums p) = p := by
  unfold bytesOf
  rw [strOfNums_data, List.map_map]
  refine (List.map_congr_left (g := id) fun x hx => ?_).trans (List.map_id _)
  have := h x hx
  show ((UInt8.ofNat x.toNat).toNat : Int) = x
  rw [UInt8.toNat_ofNat']
  omega
/-- A text that is taken, and its bytes. -/
theorem text_one {l : List Int} (hb : Bytes l) {a : Nat} (ha : a ≤ l.length) {last : ByteArray} (hls : last.size ≤ 256) (h1 : ge l a = 0) (h2 : ¬ (last.size : Int) < gx l a) (h3 : be l (a + gk l a) (256 - gx l a) = 0) (h4 : shared last (tt l a last) = (gx l a).toNat) :
    a ≤ ta l a ∧ ta l a ≤ l.length ∧ (tt l a last).size ≤ 256 ∧ (l.drop a).take (ta l a - a) = tpart last (tt l a last) := by
  obtain ⟨-, hx0, hx1, -, -, hk, hu⟩ := g_ok hb ha h1
  obtain ⟨-, -, hk2, hpl, -, hpm, hpb, -, -, hpt⟩ := b_ok hb hk h3
  obtain ⟨X, hX⟩ := Int.eq_ofNat_of_zero_le hx0
  have hte : tt l a last = last.extract 0 X ++ strOfNums (bx l (a + gk l a) (256 - gx l a)) := by unfold tt; rw [hX, Int.toNat_natCast]
  rw [hX, Int.toNat_natCast] at h4
  rw [hX, Int.toNat_natCast] at hu
  have hex : (last.extract 0 X).size = X := by rw [ByteArray.size_extract]; omega
  have hps : (strOfNums (bx l (a + gk l a) (256 - gx l a))).size = (bx l (a + gk l a) (256 - gx l a)).length := by
    show (strOfNums (bx l (a + gk l a) (256 - gx l a))).data.size = _
    rw [← Array.length_toList, strOfNums_data, List.length_map]
  have hr : rest last (tt l a last) = bx l (a + gk l a) (256 - gx l a) := by
    unfold rest
    rw [h4, hte]
    unfold bytesOf
    rw [ByteArray.data_append, Array.toList_append, List.map_append, List.drop_left']
    · exact bytes_nums hpb
    · rw [List.length_map, data_length, hex]
  have hta : ta l a = a + gk l a + bk l (a + gk l a) (256 - gx l a) := rfl
  refine ⟨by omega, by rw [hta]; exact hk2, by rw [hte, ByteArray.size_append, hex, hps, hpl]; omega, ?_⟩
  rw [take_split l (show a ≤ a + gk l a by omega) (show a + gk l a ≤ ta l a by omega), show a + gk l a - a = gk l a by omega, ← hu, hta, show a + gk l a + bk l (a + gk l a) (256 - gx l a) - (a + gk l a) = bk l (a + gk l a) (256 - gx l a) by omega, hpt]
  unfold tpart
  rw [h4, hr]
theorem ttx_one {l : List Int} (hb : Bytes l) (strict : Bool) : ∀ m a last xs cs a', a ≤ l.length → last.size ≤ 256 → ttx l strict m a last xs = (cs, a', 0) →
    ∃ ys, cs = xs ++ ys ∧ ys.length = m ∧ a ≤ a' ∧ a' ≤ l.length ∧ (l.drop a).take (a' - a) = tel last ys ∧ ∀ y ∈ ys, y.f0 = 0 ∧ y.f1.size ≤ 256 ∧ (strict = true → Lib.validD y.f1.data.toList = true)
  | 0, a, last, xs, cs, a', ha, _, h => by
    rw [ttx] at h
    simp only [Prod.mk.injEq] at h
    obtain ⟨rfl, rfl, -⟩ := h
    exact ⟨[], by simp, rfl, Nat.le_refl _, ha, by simp [tel], by simp⟩
  | m + 1, a, last, xs, cs, a', ha, hl, h => by
    rw [ttx] at h
    by_cases h1 : ge l a ≠ 0
    · rw [if_pos h1] at h
      simp only [Prod.mk.injEq] at h
      exact absurd h.2.2 h1
    rw [if_neg h1] at h
    by_cases h2 : (last.size : Int) < gx l a
    · rw [if_pos h2] at h
      simp only [Prod.mk.injEq] at h
      exact absurd h.2.2 (by decide)
    rw [if_neg h2] at h
    by_cases h3 : be l (a + gk l a) (256 - gx l a) ≠ 0
    · rw [if_pos h3] at h
      simp only [Prod.mk.injEq] at h
      exact absurd h.2.2 h3
    rw [if_neg h3] at h
    by_cases h4 : shared last (tt l a last) ≠ (gx l a).toNat
    · rw [if_pos h4] at h
      simp only [Prod.mk.injEq] at h
      exact absurd h.2.2 (by decide)
    rw [if_neg h4] at h
    by_cases h5 : strict = true ∧ Lib.validD (tt l a last).data.toList = false
    · rw [if_pos h5] at h
      simp only [Prod.mk.injEq] at h
      exact absurd h.2.2 (by decide)
    rw [if_neg h5] at h
    obtain ⟨t1, t2, t3, t4⟩ := text_one hb ha hl (Decidable.not_not.1 h1) h2 (Decidable.not_not.1 h3) (Decidable.not_not.1 h4)
    obtain ⟨ys, rfl, g2, g3, g4, g5, g6⟩ := ttx_one hb strict m _ _ _ cs a' t2 t3 h
    refine ⟨⟨0, tt l a last⟩ :: ys, by simp, by simp [g2], by omega, g4, ?_, ?_⟩
    · rw [take_split l t1 g3, t4, g5, tel]
    · intro y hy
      rcases List.mem_cons.1 hy with rfl | hy
      · refine ⟨rfl, t3, fun hs => ?_⟩
        cases hv : Lib.validD (tt l a last).data.toList with
        | true => rfl
        | false => exact absurd ⟨hs, hv⟩ h5
      · exact g6 y hy
/-! bools -/
theorem row8_at (C : Int) : ∀ k j, j < k → (row8 C k)[j]? = some (bitc C j)
  | 0, j, h => absurd h (Nat.not_lt_zero _)
  | k + 1, j, h => by
    rw [row8]
    by_cases e : j < k
    · rw [List.getElem?_append_left (by rw [row8_len]; exact e)]
      exact row8_at C k j e
    · obtain rfl : j = k := by omega
      rw [List.getElem?_append_right (by rw [row8_len]; exact Nat.le_refl _), row8_len, Nat.sub_self]
      rfl
theorem bits_sum {cs : List S47} {o : Nat} {C : Nat} : ∀ w, (∀ r, r < w → nm cs (o + r) = (C : Int) / 2 ^ r % 2) → bs cs o w = ((C % 2 ^ w : Nat) : Int)
  | 0, _ => by simp [bs, Nat.mod_one]
  | w + 1, h => by
    have ih := bits_sum w (fun r hr => h r (by omega))
    rw [bs, ih, h w (by omega), Nat.pow_succ, Nat.mod_mul]
    have e1 : ((2 : Int) ^ w) = ((2 ^ w : Nat) : Int) := by simp
    rw [e1]
    simp [Int.mul_comm]
theorem tb_one {l : List Int} (hb : Bytes l) (n : Nat) : ∀ f a xs cs a', a ≤ l.length → xs.length ≤ n → (xs.length % 8 = 0 ∨ xs.length = n) → n < xs.length + f → tb l n f a xs = (cs, a', 0) →
    ∃ ys, cs = xs ++ ys ∧ cs.length = n ∧ a ≤ a' ∧ a' ≤ l.length ∧ (xs.length = n → a' = a) ∧ (xs.length < n → a' - a = (n + 7) / 8 - xs.length / 8) ∧ (∀ y ∈ ys, y.f1 = e0 ∧ 0 ≤ y.f0 ∧ y.f0 ≤ 1) ∧
      ∀ q, q < a' - a → rd l ((a + q : Nat) : Int) = bs cs (xs.length + 8 * q) (min 8 (n - (xs.length + 8 * q)))
  | 0, a, xs, cs, a', ha, h1, h2, hf, h => by omega
  | f + 1, a, xs, cs, a', ha, h1, h2, hf, h => by
    rw [tb] at h
    by_cases hlt : xs.length < n
    case neg =>
      rw [if_neg hlt] at h
      simp only [Prod.mk.injEq] at h
      obtain ⟨rfl, rfl, -⟩ := h
      exact ⟨[], by simp, by omega, Nat.le_refl _, ha, fun _ => rfl, fun z => absurd z hlt, by simp, fun q hq => by omega⟩
    rw [if_pos hlt] at h
    by_cases hal : a < l.length
    case neg =>
      rw [if_neg hal] at h
      simp only [Prod.mk.injEq] at h
      exact absurd h.2.2 (by decide)
    rw [if_pos hal] at h
    obtain ⟨w, hw⟩ : ∃ w, min 8 (n - xs.length) = w := ⟨_, rfl⟩
    rw [hw] at h
    have hr := hb.rd_ a
    obtain ⟨C, hC⟩ := Int.eq_ofNat_of_zero_le hr.1
    by_cases hz : rd l (a : Int) / 2 ^ w = 0
    case neg =>
      rw [if_neg hz] at h
      simp only [Prod.mk.injEq] at h
      exact absurd h.2.2 (by decide)
    rw [if_pos hz] at h
    have hlen : (xs ++ row8 (rd l (a : Int)) w).length = xs.length + w := by rw [List.length_append, row8_len]
    obtain ⟨ys, hcs, g2, g3, g4, g5, g6, g7, g8⟩ := tb_one hb n f (a + 1) _ cs a' hal (by rw [hlen]; omega) (by rw [hlen]; omega) (by rw [hlen]; omega) h
    rw [hlen] at g5 g6 g8
    refine ⟨row8 (rd l (a : Int)) w ++ ys, by rw [hcs, List.append_assoc], g2, by omega, g4, fun z => by omega, fun _ => ?_, ?_, ?_⟩
    · by_cases e : xs.length + w = n
      · have := g5 e
        omega
      · have := g6 (by omega)
        omega
    · intro y hy
      rcases List.mem_append.1 hy with hy | hy
      · obtain ⟨j, hj, rfl⟩ := List.mem_iff_getElem.1 hy
        have := row8_at (rd l (a : Int)) w j (by rw [row8_len] at hj; exact hj)
        rw [List.getElem?_eq_getElem hj] at this
        injection this with this
        rw [this]
        refine ⟨rfl, ?_, ?_⟩
        · show 0 ≤ rd l (a : Int) / 2 ^ j % 2; omega
        · show rd l (a : Int) / 2 ^ j % 2 ≤ 1; omega
      · exact g7 y hy
    · intro q hq
      by_cases e : q = 0
      · subst e
        rw [Nat.mul_zero, Nat.add_zero, Nat.add_zero, hw, hC]
        have hlt2 : C < 2 ^ w := by
          rw [hC] at hz
          have hp : (0 : Int) < 2 ^ w := Int.pow_pos (by decide)
          have hm := Int.emod_add_mul_ediv (C : Int) (2 ^ w)
          rw [hz] at hm
          have hm2 := Int.emod_lt_of_pos (C : Int) hp
          have : (C : Int) < ((2 ^ w : Nat) : Int) := by
            rw [show ((2 ^ w : Nat) : Int) = (2 : Int) ^ w by simp]
            omega
          omega
        rw [bits_sum (C := C) w ?_, Nat.mod_eq_of_lt hlt2]
        intro r hr2
        have : cs[xs.length + r]? = some (bitc (rd l (a : Int)) r) := by
          rw [hcs, List.append_assoc, List.getElem?_append_right (by omega), Nat.add_sub_cancel_left, List.getElem?_append_left (by rw [row8_len]; exact hr2)]
          exact row8_at _ w r hr2
        have hle : xs.length + r < cs.length := (List.getElem?_eq_some_iff.1 this).1
        rw [cell_at hle] at this
        injection this with this
        have := congrArg (fun s => s.f0) this
        rw [hC] at this
        exact this
      · obtain ⟨p, rfl⟩ : ∃ p, q = p + 1 := ⟨q - 1, by omega⟩
        have h8 : w = 8 := by
          by_cases e8 : xs.length + w = n
          · have := g5 e8; omega
          · omega
        have := g8 p (by omega)
        rw [h8] at this
        rw [show a + (p + 1) = a + 1 + p by omega, this]
        congr 1
        · omega
        · omega
theorem mem_at {cs : List S47} {P : S47 → Prop} (h : ∀ x ∈ cs, P x) {j : Nat} (hj : j < cs.length) : P ⟨nm cs j, tx cs j⟩ := by
  have := cell_at hj
  exact h _ (List.mem_of_getElem? this)
theorem rd_get {l : List Int} {q : Nat} (h : q < l.length) : l[q]? = some (rd l (q : Int)) := by
  unfold rd
  rw [Int.toNat_natCast, List.getD_eq_getElem?_getD, List.getElem?_eq_getElem h]; rfl
structure One (l : List Int) (k n : Int) (cs : List S47) (a : Nat) : Prop where
  kind : 0 ≤ k ∧ k ≤ 5
  len : (cs.length : Int) = n
  most : cs.length ≤ 1024
  fine : fe k cs cs.length = 0
  bytes : wrote k cs = l.take a
  le : a ≤ l.length
  num : ∀ x ∈ cs, 0 ≤ x.f0 ∧ x.f0 < 18446744073709551616
  text : ∀ x ∈ cs, x.f1.size ≤ 256
theorem tk_one {l : List Int} (hb : Bytes l) (k n : Int) {cs : List S47} {a : Nat} (h : tk l k n 0 = (cs, a, 0)) : One l k n cs a := by
  unfold tk at h
  by_cases hk : 0 ≤ k ∧ k ≤ 5
  case neg =>
    rw [if_pos hk] at h
    simp only [Prod.mk.injEq] at h
    exact absurd h.2.2 (by decide)
  rw [if_neg (Decidable.not_not.2 hk)] at h
  by_cases hn : 0 ≤ n ∧ n ≤ 1024
  case neg =>
    rw [if_pos hn] at h
    simp only [Prod.mk.injEq] at h
    exact absurd h.2.2 (by decide)
  rw [if_neg (Decidable.not_not.2 hn)] at h
  obtain ⟨m, rfl⟩ := Int.eq_ofNat_of_zero_le hn.1
  rw [Int.toNat_natCast] at h
  have hm : m ≤ 1024 := by omega
  -- numbers of any kind
  have hnum : ∀ kk, (0 ≤ kk ∧ kk ≤ 5) → ¬(kk = 3 ∨ kk = 4) → kk ≠ 2 → (∀ y ∈ cs, y.f1 = e0 ∧ 0 ≤ y.f0 ∧ y.f0 < 18446744073709551616) → fe kk cs cs.length = 0 := fun kk h1 h2 h3 hy =>
    fe_of (fun j hj => by
      have := mem_at hy hj
      rw [show tx cs j = e0 from this.1]
      exact chk_num_of h1 h2 (fun z => absurd z h3))
  have htxt : (∀ y ∈ cs, y.f1 = e0 ∧ 0 ≤ y.f0 ∧ y.f0 < 18446744073709551616) → ∀ y ∈ cs, y.f1.size ≤ 256 := fun hy y h1 => by rw [(hy y h1).1]; exact Nat.zero_le _
  have hno : ∀ kk, kk = 1 ∨ kk = 5 → tnum l m 0 = (cs, a, 0) → One l kk (m : Int) cs a := by
    intro kk hkk h
    unfold tnum at h
    have hw : wrote kk cs = Co.nums cs := by
      rcases hkk with rfl | rfl
      · rw [wrote, if_neg (by decide), if_neg (by decide), if_neg (by decide)]
      · rw [wrote, if_neg (by decide), if_neg (by decide), if_neg (by decide)]
    by_cases h0 : m = 0
    · rw [if_pos h0] at h
      simp only [Prod.mk.injEq] at h
      obtain ⟨rfl, rfl, -⟩ := h
      exact ⟨by omega, by simp [h0], by simp, rfl, by rw [hw]; rfl, Nat.zero_le _, by simp, by simp⟩
    · rw [if_neg h0] at h
      by_cases he : ge l 0 = 0
      · rw [if_pos he] at h
        obtain ⟨-, hx0, hx1, -, -, hg, hu⟩ := g_ok hb (Nat.zero_le _) he
        obtain ⟨ys, hcs, g2, g3, g4, g5, g6⟩ := tnx_one hb _ _ _ _ cs a hg ⟨hx0, hx1⟩ h
        have hy : ∀ y ∈ cs, y.f1 = e0 ∧ 0 ≤ y.f0 ∧ y.f0 < 18446744073709551616 := by
          rw [hcs]
          intro y hy
          rcases List.mem_append.1 hy with hy | hy
          · rw [List.mem_singleton.1 hy]; exact ⟨rfl, hx0, hx1⟩
          · exact g6 y hy
        have hl : cs.length = m := by rw [hcs, List.length_append, g2]; simp; omega
        have hnd := (nbs_del cs (nm cs 0) 1 (m - 1) (by omega)).1
        have hnm : nm cs 0 = gx l 0 := by rw [hcs]; rfl
        have hdr : (cs.drop 1).take (m - 1) = ys := by rw [hcs]; simp [List.take_of_length_le (Nat.le_of_eq g2)]
        refine ⟨by omega, by omega, by omega, hnum kk (by omega) (by omega) (by omega) hy, ?_, g4, fun x hx => (hy x hx).2, htxt hy⟩
        rw [hw]
        unfold Co.nums
        have hz := take_split l (Nat.zero_le (0 + gk l 0)) g3
        rw [Nat.sub_zero, List.drop_zero] at hz
        rw [if_neg (by omega), hl, hnd, hdr, hnm, hz, g5, hu]
        simp
      · rw [if_neg he] at h
        simp only [Prod.mk.injEq] at h
        exact absurd h.2.2 he
  have htx : ∀ kk st, (kk = 3 ∨ kk = 4) → (kk = 4 → st = true) → ttx l st m 0 e0 [] = (cs, a, 0) → One l kk (m : Int) cs a := by
    intro kk st hkk hst h
    obtain ⟨ys, hcs, g2, g3, g4, g5, g6⟩ := ttx_one hb st m 0 e0 [] cs a (Nat.zero_le _) (Nat.zero_le _) h
    rw [List.nil_append] at hcs
    subst hcs
    have hw : wrote kk cs = txs cs cs.length := by rw [wrote, if_neg (by omega), if_neg (by omega), if_pos hkk]
    have ht := (txs_tel cs cs.length (Nat.le_refl _)).1
    rw [List.take_length] at ht
    refine ⟨by omega, by omega, by omega, fe_of (fun j hj => ?_), ?_, g4, fun x hx => ?_, fun x hx => (g6 x hx).2.1⟩
    · have := mem_at g6 hj
      rw [show nm cs j = 0 from this.1]
      exact chk_text_of hkk this.2.1 (fun z => this.2.2 (hst z))
    · rw [hw, ht, ← g5, Nat.sub_zero, List.drop_zero]
    · have := (g6 x hx).1
      rw [this]; exact ⟨by decide, by decide⟩
  by_cases h0 : k = 0
  · subst h0
    rw [if_pos rfl] at h
    obtain ⟨ys, hcs, g2, g3, g4, g5, g6⟩ := tnx_one hb m 0 0 [] cs a (Nat.zero_le _) (by decide) h
    rw [List.nil_append] at hcs
    subst hcs
    have hnd := (nbs_del cs 0 0 cs.length (by omega)).1
    rw [List.drop_zero, List.take_length] at hnd
    refine ⟨hk, by omega, by omega, hnum 0 (by decide) (by decide) (by decide) g6, ?_, g4, fun x hx => (g6 x hx).2, htxt g6⟩
    rw [wrote, if_pos rfl, hnd, ← g5, Nat.sub_zero, List.drop_zero]
  rw [if_neg h0] at h
  by_cases h2 : k = 2
  · subst h2
    rw [if_pos rfl] at h
    obtain ⟨ys, hcs, g2, g3, g4, g5, g6, g7, g8⟩ := tb_one hb m (m + 1) 0 [] cs a (Nat.zero_le _) (by simp) (.inl rfl) (by simp) h
    rw [List.nil_append] at hcs
    subst hcs
    have ha : a = (m + 7) / 8 := by
      by_cases e : m = 0
      · have := g5 (by simp [e]); omega
      · have := g6 (by simp; omega)
        simp at this
        omega
    have hnm : ∀ j, j < cs.length → 0 ≤ nm cs j ∧ nm cs j ≤ 1 := fun j hj => (mem_at g7 hj).2
    refine ⟨by decide, by omega, by omega, fe_of (fun j hj => ?_), ?_, g4, fun x hx => ?_, fun x hx => by rw [(g7 x hx).1]; exact Nat.zero_le _⟩
    · have := mem_at g7 hj
      rw [show tx cs j = e0 from this.1]
      exact chk_num_of (by decide) (by decide) (fun _ => this.2.2)
    · rw [wrote, if_neg (by decide), if_pos rfl, g2, ← ha]
      refine List.ext_getElem? (fun q => ?_)
      by_cases hq : q < a
      · have hw := wb_at cs a hnm cs.length (Nat.le_refl _) (by omega) q hq
        rw [g2] at hw
        rw [hw, List.getElem?_take, if_pos hq, rd_get (by omega)]
        have := g8 q (by omega)
        simp only [Nat.zero_add, List.length_nil] at this
        rw [this]
      · rw [List.getElem?_eq_none (by rw [wb_len]; omega), List.getElem?_eq_none (by rw [List.length_take]; omega)]
    · have := g7 x hx
      omega
  rw [if_neg h2] at h
  by_cases h3 : k = 3
  · subst h3
    rw [if_pos rfl] at h
    exact htx 3 false (.inl rfl) (fun z => absurd z (by decide)) h
  rw [if_neg h3] at h
  by_cases h4 : k = 4
  · subst h4
    rw [if_pos rfl] at h
    exact htx 4 true (.inr rfl) (fun _ => rfl) h
  rw [if_neg h4] at h
  exact hno k (by omega) h
end Go.Proofs.YtmoopdhnnpjcfaaDoor.Co
