import Derived.Test.YtmoopdhnnpjcfaaDoorTkN
/-! Column: with fewer bytes, or for more cells, they are too short; how many bytes there are. -/
namespace Go.Proofs.YtmoopdhnnpjcfaaDoor.Co
open Go.RowKit Go.Proofs.YtmoopdhnnpjcfaaDoorW.PrintWords Go.Proofs.YtmoopdhnnpjcfaaDoorW.PrintLast Go.Proofs.YtmoopdhnnpjcfaaDoorW.PrintMore Go.Proofs.YtmoopdhnnpjcfaaDoor.Wire Go.Proofs.YtmoopdhnnpjcfaaDoor.PCo Go.Proofs.YtmoopdhnnpjcfaaDoor.CoG Go.Proofs.YtmoopdhnnpjcfaaDoor.Rd
set_option linter.unusedVariables false
set_option linter.unusedSimpArgs false
set_option maxRecDepth 100000
theorem ge_none {L : List Int} {a : Nat} (h : L.drop a = []) : ge L a = 5 := by unfold ge; rw [h]; rfl
theorem ge_cut {L : List Int} {a x i : Nat} (hx : x < 18446744073709551616) (hi : i < usz x) (h : L.drop a = (uv x).take i) : ge L a = 5 := by unfold ge; rw [h, gu_short hx hi]
/-! numbers -/
/-- So many are taken, more are to come. -/
theorem tnx_run {L B : List Int} {cs : List S47} (last : Int) (hl : 0 ≤ last ∧ last < 18446744073709551616) (a0 i m e : Nat) (him : i + m ≤ cs.length) (hnum : ∀ j, j < cs.length → 0 ≤ nm cs j ∧ nm cs j < 18446744073709551616)
    (h : L.drop a0 = nbs cs last i m ++ B) : ∀ d j xs, m - j = d → j ≤ m → ∃ v ys, tnx L (m - j + e) (a0 + (nbs cs last i j).length) (if j = 0 then last else nm cs (i + j - 1)) xs = tnx L e (a0 + (nbs cs last i m).length) v ys := by
  intro d
  induction d with
  | zero =>
    intro j xs hd hj
    obtain rfl : j = m := by omega
    rw [Nat.sub_self, Nat.zero_add]; exact ⟨_, _, rfl⟩
  | succ d ih =>
    intro j xs hd hj
    obtain ⟨q, hq⟩ : ∃ q, m - j = q + 1 := ⟨m - j - 1, by omega⟩
    obtain ⟨t, ht⟩ := nbs_pre cs last i (show j + 1 ≤ m by omega)
    have hpre : 0 ≤ (if j = 0 then last else nm cs (i + j - 1)) ∧ (if j = 0 then last else nm cs (i + j - 1)) < 18446744073709551616 := by
      split
      · exact hl
      · exact hnum _ (by omega)
    obtain ⟨p, hp⟩ : ∃ p, (if j = 0 then last else nm cs (i + j - 1)) = p := ⟨_, rfl⟩
    rw [hp] at hpre ⊢
    have hdrop : L.drop (a0 + (nbs cs last i j).length) = dlt p (nm cs (i + j)) ++ (t ++ B) := by
      rw [ht, nbs, hp, List.append_assoc, List.append_assoc] at h
      exact drop_pre h
    have hw := wrap64_range (IntKind.u64.wrap (nm cs (i + j) - p))
    have hz := zig_range hw.1 hw.2
    have hn := hnum (i + j) (by omega)
    obtain ⟨g1, g2, g3⟩ := g_at (x := (zigS (wrap64 (IntKind.u64.wrap (nm cs (i + j) - p)))).toNat) (by omega) hdrop
    rw [Int.toNat_of_nonneg hz.1] at g2
    rw [hq, show q + 1 + e = (q + e) + 1 by omega, tnx, if_pos g1, g2, nxt_back hpre hn, g3]
    have := ih (j + 1) (xs ++ [⟨nm cs (i + j), e0⟩]) (by omega) (by omega)
    rw [if_neg (by omega), show i + (j + 1) - 1 = i + j by omega, show m - (j + 1) = q by omega, nbs, hp, List.length_append] at this
    rw [Nat.add_assoc a0]
    exact this
theorem nbs_last (cs : List S47) (last : Int) (i m : Nat) : nbs cs last i (m + 1) = nbs cs last i m ++ dlt (if m = 0 then last else nm cs (i + m - 1)) (nm cs (i + m)) := rfl
theorem dlt_pos (a b : Int) : ∃ x, x < 18446744073709551616 ∧ dlt a b = uv x ∧ 1 ≤ usz x := by
  have hw := wrap64_range (IntKind.u64.wrap (b - a))
  have hz := zig_range hw.1 hw.2
  exact ⟨_, by omega, rfl, (usz_spec _).1⟩
theorem cut_last {P D : List Int} (hD : 1 ≤ D.length) : (P ++ D).take ((P ++ D).length - 1) = P ++ D.take (D.length - 1) := by
  rw [List.length_append, List.take_append, List.take_of_length_le (by omega)]
  congr 2
  omega
theorem err5 {r : Res} (h : r.2.2 = 5) (l : List Int) : rdErr l r = 5 := by unfold rdErr; rw [h, if_neg (by decide)]
/-- One byte less: too short. -/
theorem tnx_cut {cs : List S47} (last : Int) (hl : 0 ≤ last ∧ last < 18446744073709551616) (P0 : List Int) (i m : Nat) (him : i + (m + 1) ≤ cs.length) (hnum : ∀ j, j < cs.length → 0 ≤ nm cs j ∧ nm cs j < 18446744073709551616) (xs : List S47) :
    (tnx ((P0 ++ nbs cs last i (m + 1)).take ((P0 ++ nbs cs last i (m + 1)).length - 1)) (m + 1) P0.length last xs).2.2 = 5 := by
  obtain ⟨x, hx, hd, h1⟩ := dlt_pos (if m = 0 then last else nm cs (i + m - 1)) (nm cs (i + m))
  have hu : (uv x).length = usz x := rfl
  have hL : (P0 ++ nbs cs last i (m + 1)).take ((P0 ++ nbs cs last i (m + 1)).length - 1) = P0 ++ (nbs cs last i m ++ (uv x).take (usz x - 1)) := by
    rw [nbs_last, hd, ← List.append_assoc, cut_last (by omega), List.append_assoc, hu]
  rw [hL]
  obtain ⟨v, ys, e⟩ := tnx_run (L := P0 ++ (nbs cs last i m ++ (uv x).take (usz x - 1))) last hl P0.length i m 1 (by omega) hnum (List.drop_left' rfl) m 0 xs (by omega) (by omega)
  rw [if_pos rfl] at e
  simp only [nbs, List.length_nil, Nat.add_zero, Nat.sub_zero] at e
  rw [e]
  have hg : ge (P0 ++ (nbs cs last i m ++ (uv x).take (usz x - 1))) (P0.length + (nbs cs last i m).length) = 5 := by
    refine ge_cut hx (show usz x - 1 < usz x by omega) ?_
    rw [← List.append_assoc, List.drop_left' (by rw [List.length_append])]
  rw [tnx, hg, if_neg (by decide)]
theorem tnx_more {cs : List S47} (last : Int) (hl : 0 ≤ last ∧ last < 18446744073709551616) (P0 : List Int) (i m : Nat) (him : i + m ≤ cs.length) (hnum : ∀ j, j < cs.length → 0 ≤ nm cs j ∧ nm cs j < 18446744073709551616) (xs : List S47) :
    (tnx (P0 ++ nbs cs last i m) (m + 8) P0.length last xs).2.2 = 5 := by
  obtain ⟨v, ys, e⟩ := tnx_run (L := P0 ++ nbs cs last i m) (B := []) last hl P0.length i m 8 him hnum (by rw [List.append_nil]; exact List.drop_left' rfl) m 0 xs (by omega) (by omega)
  rw [if_pos rfl] at e
  simp only [nbs, List.length_nil, Nat.add_zero, Nat.sub_zero] at e
  rw [e, tnx, ge_none (by rw [List.drop_of_length_le (by rw [List.length_append]; exact Nat.le_refl _)]), if_neg (by decide)]
/-! texts -/
theorem ttx_run {L B : List Int} {cs : List S47} (strict : Bool) (a0 m e : Nat) (hm : m ≤ cs.length) (hc : ∀ j, j < cs.length → nm cs j = 0 ∧ (tx cs j).size ≤ 256 ∧ (strict = true → Lib.validD (tx cs j).data.toList = true))
    (h : L.drop a0 = txs cs m ++ B) : ∀ d j xs, m - j = d → j ≤ m → ∃ ys, ttx L strict (m - j + e) (a0 + (txs cs j).length) (lastT cs j) xs = ttx L strict e (a0 + (txs cs m).length) (lastT cs m) ys := by
  intro d
  induction d with
  | zero =>
    intro j xs hd hj
    obtain rfl : j = m := by omega
    rw [Nat.sub_self, Nat.zero_add]; exact ⟨_, rfl⟩
  | succ d ih =>
    intro j xs hd hj
    obtain ⟨q, hq⟩ : ∃ q, m - j = q + 1 := ⟨m - j - 1, by omega⟩
    obtain ⟨t, ht⟩ := txs_pre cs (show j + 1 ≤ m by omega)
    obtain ⟨hn, hs, hv⟩ := hc j (by omega)
    have hdrop : L.drop (a0 + (txs cs j).length) = tpart (lastT cs j) (tx cs j) ++ (t ++ B) := by
      rw [ht, txs, List.append_assoc, List.append_assoc] at h
      exact drop_pre h
    obtain ⟨g1, g2, b1, e1, e2⟩ := text_at hs hdrop
    have hsh := shared_le (lastT cs j) (tx cs j)
    rw [hq, show q + 1 + e = (q + e) + 1 by omega, ttx, if_neg (by rw [g1]; simp), if_neg (by rw [g2]; omega), if_neg (by rw [b1]; simp), e1, if_neg (by rw [g2, Int.toNat_natCast]; simp), if_neg, e2]
    · have := ih (j + 1) (xs ++ [⟨0, tx cs j⟩]) (by omega) (by omega)
      rw [show m - (j + 1) = q by omega, txs, List.length_append, ← Nat.add_assoc] at this
      exact this
    · rintro ⟨s1, s2⟩
      rw [hv s1] at s2
      cases s2
theorem be_cut {L : List Int} {a : Nat} {m : Int} {p : List Int} (hp : (p.length : Int) ≤ m) (hpl : p.length ≤ 256) (h : L.drop a = (uv p.length ++ p).take ((uv p.length ++ p).length - 1)) : be L a m = 5 := by
  unfold be
  rw [gb_eq]
  by_cases hz : p = []
  · subst hz
    rw [List.append_nil] at h
    have h1 := (usz_spec ([] : List Int).length).1
    rw [ge_cut (x := ([] : List Int).length) (by decide) (show usz ([] : List Int).length - 1 < usz ([] : List Int).length by omega) h, if_pos (by decide)]
  · have hp1 : 1 ≤ p.length := List.length_pos_iff.2 hz
    rw [cut_last hp1] at h
    obtain ⟨g1, g2, g3⟩ := g_at (x := p.length) (by omega) h
    have hgu : gu (L.drop a) = ((p.length : Int), (usz p.length : Int), 0) := by rw [h]; exact gu_uv (by omega) _
    have hl := congrArg List.length h
    rw [List.length_append, List.length_take] at hl
    have hu : (uv p.length).length = usz p.length := rfl
    rw [g1, if_neg (by simp), g2, if_neg (by omega), hgu, if_pos (by dsimp only; omega)]
theorem ttx_cut {cs : List S47} (strict : Bool) (m : Nat) (hm : m + 1 ≤ cs.length) (hc : ∀ j, j < cs.length → nm cs j = 0 ∧ (tx cs j).size ≤ 256 ∧ (strict = true → Lib.validD (tx cs j).data.toList = true)) :
    (ttx ((txs cs (m + 1)).take ((txs cs (m + 1)).length - 1)) strict (m + 1) 0 e0 []).2.2 = 5 := by
  obtain ⟨hn, hs, hv⟩ := hc m (by omega)
  have hsh := shared_le (lastT cs m) (tx cs m)
  have hr := rest_len (lastT cs m) (tx cs m)
  have hu1 : 1 ≤ (uv (rest (lastT cs m) (tx cs m)).length ++ rest (lastT cs m) (tx cs m)).length := by
    have := (usz_spec (rest (lastT cs m) (tx cs m)).length).1
    have hu : (uv (rest (lastT cs m) (tx cs m)).length).length = usz (rest (lastT cs m) (tx cs m)).length := rfl
    rw [List.length_append]; omega
  obtain ⟨p, hp⟩ : ∃ p, uv (rest (lastT cs m) (tx cs m)).length ++ rest (lastT cs m) (tx cs m) = p := ⟨_, rfl⟩
  rw [hp] at hu1
  have hL : (txs cs (m + 1)).take ((txs cs (m + 1)).length - 1) = txs cs m ++ (uv (shared (lastT cs m) (tx cs m)) ++ p.take (p.length - 1)) := by
    rw [txs, tpart, hp, ← List.append_assoc, cut_last hu1, List.append_assoc]
  rw [hL]
  obtain ⟨L, hLL⟩ : ∃ L, txs cs m ++ (uv (shared (lastT cs m) (tx cs m)) ++ p.take (p.length - 1)) = L := ⟨_, rfl⟩
  rw [hLL]
  have hd : L.drop (txs cs m).length = uv (shared (lastT cs m) (tx cs m)) ++ p.take (p.length - 1) := by rw [← hLL]; exact List.drop_left' rfl
  obtain ⟨ys, e⟩ := ttx_run (L := L) strict 0 m 1 (by omega) hc (by rw [List.drop_zero]; exact hLL.symm) m 0 [] (by omega) (by omega)
  simp only [txs, List.length_nil, Nat.zero_add, Nat.sub_zero] at e
  rw [show lastT cs 0 = e0 from rfl] at e
  rw [e]
  obtain ⟨g1, g2, g3⟩ := g_at (x := shared (lastT cs m) (tx cs m)) (by omega) hd
  have hd2 := drop_pre hd
  rw [show (uv (shared (lastT cs m) (tx cs m))).length = gk L (txs cs m).length from g3.symm] at hd2
  have hb := be_cut (m := 256 - gx L (txs cs m).length) (p := rest (lastT cs m) (tx cs m)) (by rw [g2, hr]; omega) (by omega) (by rw [hp]; exact hd2)
  rw [ttx, if_neg (by rw [g1]; simp), if_neg (by rw [g2]; omega), if_pos (by rw [hb]; decide), hb]
theorem ttx_more {cs : List S47} (strict : Bool) (hc : ∀ j, j < cs.length → nm cs j = 0 ∧ (tx cs j).size ≤ 256 ∧ (strict = true → Lib.validD (tx cs j).data.toList = true)) :
    (ttx (txs cs cs.length) strict (cs.length + 8) 0 e0 []).2.2 = 5 := by
  obtain ⟨ys, e⟩ := ttx_run (L := txs cs cs.length) (B := []) strict 0 cs.length 8 (Nat.le_refl _) hc (by simp) cs.length 0 [] (by omega) (by omega)
  simp only [txs, List.length_nil, Nat.zero_add, Nat.sub_zero] at e
  rw [show lastT cs 0 = e0 from rfl] at e
  rw [e, ttx, ge_none (by rw [List.drop_of_length_le (Nat.le_refl _)]), if_pos (by decide)]
/-! bools -/
theorem tb_run {L : List Int} (hb : Bytes L) (N : Nat) : ∀ q f a xs, a + q ≤ L.length → xs.length + 8 * q ≤ N → ∃ ys, tb L N (q + f) a xs = tb L N f (a + q) ys ∧ ys.length = xs.length + 8 * q
  | 0, f, a, xs, _, _ => ⟨xs, by rw [Nat.zero_add]; rfl, rfl⟩
  | q + 1, f, a, xs, h1, h2 => by
    have hr := hb.rd_ a
    obtain ⟨ys, e, hl⟩ := tb_run hb N q f (a + 1) (xs ++ row8 (rd L (a : Int)) 8) (by omega) (by rw [List.length_append, row8_len]; omega)
    refine ⟨ys, ?_, by rw [hl, List.length_append, row8_len]; omega⟩
    rw [show q + 1 + f = (q + f) + 1 by omega, tb, if_pos (by omega), if_pos (by omega), show min 8 (N - xs.length) = 8 by omega, if_pos (by omega), e, show a + 1 + q = a + (q + 1) by omega]
/-- Bools, where a byte lacks. -/
theorem tb_short {L : List Int} (hb : Bytes L) {N : Nat} (h : 8 * L.length < N) : (tb L N (N + 1) 0 []).2.2 = 5 := by
  obtain ⟨ys, e, hl⟩ := tb_run hb N L.length (N + 1 - L.length) 0 [] (by omega) (by simp; omega)
  rw [show L.length + (N + 1 - L.length) = N + 1 by omega, Nat.zero_add] at e
  rw [e, show N + 1 - L.length = (N - L.length) + 1 by omega, tb, hl, if_pos (by simp; omega), if_neg (by omega)]
theorem wb_bytes {l : List S47} {m : Nat} (hnm : ∀ j, j < l.length → 0 ≤ nm l j ∧ nm l j ≤ 1) (hm : l.length ≤ 8 * m) : Bytes (wb l m l.length) := by
  intro c hc
  obtain ⟨q, hq, rfl⟩ := List.mem_iff_getElem.1 hc
  have hq' : q < m := by rw [wb_len] at hq; exact hq
  have := wb_at l m hnm l.length (Nat.le_refl _) hm q hq'
  rw [List.getElem?_eq_getElem hq] at this
  injection this with this
  rw [this]
  have hl := bs_lt (l := l) (o := 8 * q) (min 8 (l.length - 8 * q)) (fun r hr => hnm _ (by omega))
  have h8 : (2 : Int) ^ (min 8 (l.length - 8 * q)) ≤ 256 := by
    rcases (show min 8 (l.length - 8 * q) = 0 ∨ min 8 (l.length - 8 * q) = 1 ∨ min 8 (l.length - 8 * q) = 2 ∨ min 8 (l.length - 8 * q) = 3 ∨ min 8 (l.length - 8 * q) = 4 ∨ min 8 (l.length - 8 * q) = 5 ∨ min 8 (l.length - 8 * q) = 6 ∨ min 8 (l.length - 8 * q) = 7 ∨ min 8 (l.length - 8 * q) = 8 by omega) with e | e | e | e | e | e | e | e | e <;> rw [e] <;> decide
  omega
/-! ### all kinds -/
theorem fine_text {k : Int} {cs : List S47} (hk : k = 3 ∨ k = 4) (hf : fe k cs cs.length = 0) (st : Bool) (hst : st = true → k = 4) : ∀ j, j < cs.length → nm cs j = 0 ∧ (tx cs j).size ≤ 256 ∧ (st = true → Lib.validD (tx cs j).data.toList = true) := fun j hj => by
  have := chk_text (fe_all hf j hj) hk
  exact ⟨this.1, this.2.1, fun z => this.2.2 (hst z)⟩
theorem tk_more {k : Int} {cs : List S47} (hk : 0 ≤ k ∧ k ≤ 5) (hn : cs.length ≤ 1015) (hf : fe k cs cs.length = 0) (hnum : ∀ j, j < cs.length → 0 ≤ nm cs j ∧ nm cs j < 18446744073709551616) : (tk (wrote k cs) k ((cs.length : Int) + 8) 0).2.2 = 5 := by
  unfold tk
  rw [if_neg (by omega), if_neg (by omega), show ((cs.length : Int) + 8).toNat = cs.length + 8 by omega]
  by_cases h0 : k = 0
  · subst h0
    rw [if_pos rfl, wrote, if_pos rfl]
    have := tnx_more 0 (by decide) [] 0 cs.length (by omega) hnum []
    simpa using this
  rw [if_neg h0]
  by_cases h2 : k = 2
  · subst h2
    rw [if_pos rfl, wrote, if_neg (by decide), if_pos rfl]
    exact tb_short (wb_bytes (fun j hj => ⟨(hnum j hj).1, (chk_num (fe_all hf j hj) (by decide)).2 rfl⟩) (by omega)) (by rw [wb_len]; omega)
  rw [if_neg h2]
  by_cases h3 : k = 3
  · subst h3
    rw [if_pos rfl, wrote, if_neg (by decide), if_neg (by decide), if_pos (by decide)]
    exact ttx_more false (fine_text (.inl rfl) hf false (fun z => by cases z))
  rw [if_neg h3]
  by_cases h4 : k = 4
  · subst h4
    rw [if_pos rfl, wrote, if_neg (by decide), if_neg (by decide), if_pos (by decide)]
    exact ttx_more true (fine_text (.inr rfl) hf true (fun _ => rfl))
  rw [if_neg h4, wrote, if_neg h0, if_neg h2, if_neg (by omega)]
  unfold tnum
  rw [if_neg (by omega)]
  unfold Co.nums
  by_cases hz : cs.length = 0
  · rw [if_pos hz, ge_none rfl, if_neg (by decide)]
  · rw [if_neg hz]
    have hn0 := hnum 0 (by omega)
    obtain ⟨g1, g2, g3⟩ := g_at (l := uv (nm cs 0).toNat ++ nbs cs (nm cs 0) 1 (cs.length - 1)) (a := 0) (x := (nm cs 0).toNat) (by omega) rfl
    rw [if_pos g1, g2, g3, Int.toNat_of_nonneg hn0.1, Nat.zero_add]
    have := tnx_more (nm cs 0) hn0 (uv (nm cs 0).toNat) 1 (cs.length - 1) (by omega) hnum [⟨nm cs 0, e0⟩]
    rw [show cs.length + 8 - 1 = cs.length - 1 + 8 by omega]
    exact this
theorem tk_cut {k : Int} {cs : List S47} (hk : 0 ≤ k ∧ k ≤ 5) (hn : cs.length ≤ 1015) (hf : fe k cs cs.length = 0) (hnum : ∀ j, j < cs.length → 0 ≤ nm cs j ∧ nm cs j < 18446744073709551616) (hw : 0 < (wrote k cs).length) : (tk ((wrote k cs).take ((wrote k cs).length - 1)) k (cs.length : Int) 0).2.2 = 5 := by
  unfold tk
  rw [if_neg (by omega), if_neg (by omega), Int.toNat_natCast]
  by_cases h0 : k = 0
  · subst h0
    rw [wrote, if_pos rfl] at hw ⊢
    rw [if_pos rfl]
    obtain ⟨m, hm⟩ : ∃ m, cs.length = m + 1 := ⟨cs.length - 1, by
      by_cases e : cs.length = 0
      · rw [e] at hw; simp [nbs] at hw
      · omega⟩
    have := tnx_cut 0 (by decide) [] 0 m (by omega) hnum []
    rw [hm]
    simpa using this
  rw [if_neg h0]
  by_cases h2 : k = 2
  · subst h2
    rw [if_pos rfl]
    rw [wrote, if_neg (by decide), if_pos rfl] at hw ⊢
    rw [wb_len] at hw
    have hb := wb_bytes (m := (cs.length + 7) / 8) (fun j hj => ⟨(hnum j hj).1, (chk_num (fe_all hf j hj) (by decide)).2 rfl⟩) (by omega)
    exact tb_short (hb.take _) (by rw [List.length_take, wb_len]; omega)
  rw [if_neg h2]
  by_cases h34 : k = 3 ∨ k = 4
  · rw [wrote, if_neg h0, if_neg h2, if_pos h34] at hw ⊢
    obtain ⟨m, hm⟩ : ∃ m, cs.length = m + 1 := ⟨cs.length - 1, by
      by_cases e : cs.length = 0
      · rw [e] at hw; simp [txs] at hw
      · omega⟩
    rcases h34 with rfl | rfl
    · rw [if_pos rfl, hm]
      exact ttx_cut false m (by omega) (fine_text (.inl rfl) hf false (fun z => by cases z))
    · rw [if_neg (by decide), if_pos rfl, hm]
      exact ttx_cut true m (by omega) (fine_text (.inr rfl) hf true (fun _ => rfl))
  rw [if_neg (fun z => h34 (.inl z)), if_neg (fun z => h34 (.inr z))]
  rw [wrote, if_neg h0, if_neg h2, if_neg h34] at hw ⊢
  unfold Co.nums at hw ⊢
  by_cases hz : cs.length = 0
  · rw [if_pos hz] at hw; simp at hw
  rw [if_neg hz] at hw ⊢
  unfold tnum
  rw [if_neg hz]
  have hn0 := hnum 0 (by omega)
  have hu1 := (usz_spec (nm cs 0).toNat).1
  have hu : (uv (nm cs 0).toNat).length = usz (nm cs 0).toNat := rfl
  by_cases h1 : cs.length = 1
  · rw [h1]
    have hg : ge ((uv (nm cs 0).toNat ++ nbs cs (nm cs 0) 1 (1 - 1)).take ((uv (nm cs 0).toNat ++ nbs cs (nm cs 0) 1 (1 - 1)).length - 1)) 0 = 5 := by
      refine ge_cut (x := (nm cs 0).toNat) (by omega) (show usz (nm cs 0).toNat - 1 < usz (nm cs 0).toNat by omega) ?_
      simp only [Nat.sub_self, nbs, List.append_nil, List.drop_zero, hu]
    rw [hg, if_neg (by decide)]
  · obtain ⟨m, hm⟩ : ∃ m, cs.length = m + 2 := ⟨cs.length - 2, by omega⟩
    have hl : (uv (nm cs 0).toNat ++ nbs cs (nm cs 0) 1 (cs.length - 1)).take ((uv (nm cs 0).toNat ++ nbs cs (nm cs 0) 1 (cs.length - 1)).length - 1) = uv (nm cs 0).toNat ++ (nbs cs (nm cs 0) 1 (cs.length - 1)).take ((nbs cs (nm cs 0) 1 (cs.length - 1)).length - 1) := by
      refine cut_last ?_
      rw [show cs.length - 1 = m + 1 by omega, nbs_last, List.length_append]
      obtain ⟨x, hx, hd, h1⟩ := dlt_pos (if m = 0 then nm cs 0 else nm cs (1 + m - 1)) (nm cs (1 + m))
      rw [hd]
      have : (uv x).length = usz x := rfl
      omega
    have ht := tnx_cut (nm cs 0) hn0 (uv (nm cs 0).toNat) 1 m (by omega) hnum [⟨nm cs 0, e0⟩]
    rw [show m + 1 = cs.length - 1 by omega] at ht
    rw [hl] at ht ⊢
    obtain ⟨g1, g2, g3⟩ := g_at (l := uv (nm cs 0).toNat ++ (nbs cs (nm cs 0) 1 (cs.length - 1)).take ((nbs cs (nm cs 0) 1 (cs.length - 1)).length - 1)) (a := 0) (x := (nm cs 0).toNat) (by omega) rfl
    rw [if_pos g1, g2, g3, Int.toNat_of_nonneg hn0.1, Nat.zero_add]
    exact ht
/-! ### how many bytes; which -/
def tsum (l : List S47) : Nat → Nat
  | 0 => 0
  | j + 1 => tsum l j + (tx l j).size
theorem tsum_le {l : List S47} (ht : ∀ j, j < l.length → (tx l j).size ≤ 256) : ∀ j, j ≤ l.length → tsum l j ≤ 256 * j
  | 0, _ => Nat.le_refl _
  | j + 1, h => by have := tsum_le ht j (by omega); have := ht j (by omega); rw [tsum]; omega
theorem usz_two {x : Nat} (h : x < 16384) : usz x ≤ 2 := by
  by_cases h1 : x < 128
  · rw [usz_small h1]; omega
  · rw [usz_big (by omega), usz_small (by omega)]; omega
theorem tpart_len2 {a s : ByteArray} (hs : s.size ≤ 256) : (tpart a s).length ≤ 4 + s.size := by
  have h1 : usz (shared a s) ≤ 2 := usz_two (by have := (shared_le a s).2; omega)
  have h2 : usz (rest a s).length ≤ 2 := usz_two (by rw [rest_len]; omega)
  unfold tpart
  rw [List.length_append, List.length_append, rest_len]
  unfold usz at h1 h2
  rw [rest_len] at h2
  omega
theorem txs_len2 {l : List S47} (ht : ∀ j, j < l.length → (tx l j).size ≤ 256) : ∀ j, j ≤ l.length → (txs l j).length ≤ 4 * j + tsum l j
  | 0, _ => by simp [txs]
  | j + 1, h => by
    have := txs_len2 ht j (by omega)
    have := tpart_len2 (a := lastT l j) (ht j (by omega))
    rw [txs, List.length_append, tsum]
    omega
theorem wrote_len {k : Int} {l : List S47} (hk : 0 ≤ k ∧ k ≤ 5) (ht : ∀ j, j < l.length → (tx l j).size ≤ 256) (hn : 0 ≤ nm l 0 ∧ nm l 0 < 18446744073709551616) : (wrote k l).length ≤ 10 * l.length + tsum l l.length := by
  unfold wrote
  split
  · have := nbs_len l 0 0 l.length; omega
  · split
    · rw [wb_len]; omega
    · split
      · have := txs_len2 ht l.length (Nat.le_refl _); omega
      · unfold Co.nums
        split
        · exact Nat.zero_le _
        · have := nbs_len l (nm l 0) 1 (l.length - 1)
          have : (uv (nm l 0).toNat).length ≤ 10 := usz_le10 (by omega)
          rw [List.length_append]
          omega
theorem nbs_bytes (l : List S47) (last : Int) (i : Nat) : ∀ j, Bytes (nbs l last i j)
  | 0 => by intro c hc; cases hc
  | j + 1 => by rw [nbs]; exact (nbs_bytes l last i j).app (Bytes.uv _)
theorem bytesOf_bytes (s : ByteArray) : Bytes (bytesOf s) := by
  intro c hc
  unfold bytesOf at hc
  obtain ⟨b, -, rfl⟩ := List.mem_map.1 hc
  have := b.toNat_lt
  constructor
  · exact Int.natCast_nonneg _
  · omega
theorem txs_bytes (l : List S47) : ∀ j, Bytes (txs l j)
  | 0 => by intro c hc; cases hc
  | j + 1 => by rw [txs]; exact (txs_bytes l j).app ((Bytes.uv _).app ((Bytes.uv _).app ((bytesOf_bytes _).drop _)))
theorem wrote_bytes {k : Int} {l : List S47} (hnum : ∀ j, j < l.length → 0 ≤ nm l j ∧ nm l j < 18446744073709551616) (hf : fe k l l.length = 0) : Bytes (wrote k l) := by
  unfold wrote
  split
  · exact nbs_bytes l 0 0 l.length
  · split
    · rename_i h
      subst h
      exact wb_bytes (fun j hj => ⟨(hnum j hj).1, (chk_num (fe_all hf j hj) (by decide)).2 rfl⟩) (by omega)
    · split
      · exact txs_bytes l l.length
      · unfold Co.nums
        split
        · intro c hc; cases hc
        · exact (Bytes.uv _).app (nbs_bytes l _ _ _)
/-! the same cells are the same -/
theorem same_loop (l : List S47) (hl : l.length ≤ 1099511627776) : ∀ d k j, l.length - j = d → j ≤ l.length → d < k → deckleref06_Same.l0 k l l (j : Int) = some true := by
  intro d
  induction d with
  | zero =>
    intro k j hd hj hk
    obtain ⟨k, rfl⟩ : ∃ q, k = q + 1 := ⟨k - 1, by omega⟩
    rw [deckleref06_Same.l0, if_neg (by omega)]
  | succ d ih =>
    intro k j hd hj hk
    obtain ⟨k, rfl⟩ : ∃ q, k = q + 1 := ⟨k - 1, by omega⟩
    rw [deckleref06_Same.l0, if_pos (by omega), if_pos (by omega), if_pos (by omega), if_neg (by simp), w64 (by omega) (by omega)]
    exact ih k (j + 1) (by omega) (by omega) (by omega)
theorem same_calls {A0 A1 : Option Addr} {c0 c1 : Nat} {l : List S47} (hl : l.length ≤ 1099511627776) (w : World) (hr0 : Kd.C k47 w A0 l.length l) (hc0 : l.length ≤ c0) (hr1 : Kd.C k47 w A1 l.length l) (hc1 : l.length ≤ c1) :
    Calls Tryd.prog 26 #[.slice A0 l.length c0, .slice A1 l.length c1] w fun e w' => e = .returned (.bool true) ∧ Below w.heap.size w w' :=
  (deckleref06_Same.calls (l.length + 1) A0 c0 l A1 c1 l true w hr0 hc0 hr1 hc1 (by unfold deckleref06_Same.f; rw [if_pos rfl]; exact same_loop l hl l.length (l.length + 1) 0 (by omega) (by omega) (by omega))).mono fun _ _ ⟨he, hd⟩ => ⟨he, hd.below⟩
end Go.Proofs.YtmoopdhnnpjcfaaDoor.Co
