import Derived.Test.YtmoopdhnnpjcfaaDoorCoL
import Derived.Test.YtmoopdhnnpjcfaaDoorSpA
import Derived.Test.YtmoopdhnnpjcfaaDoorRrCo
/-! Column: what the document's Take takes, a step at a time. -/
namespace Go.Proofs.YtmoopdhnnpjcfaaDoor.Co
open Go.RowKit Go.Proofs.YtmoopdhnnpjcfaaDoorW.PrintWords Go.Proofs.YtmoopdhnnpjcfaaDoorW.PrintLast Go.Proofs.YtmoopdhnnpjcfaaDoorW.PrintMore Go.Proofs.YtmoopdhnnpjcfaaDoor.Wire Go.Proofs.YtmoopdhnnpjcfaaDoor.PCo Go.Proofs.YtmoopdhnnpjcfaaDoor.CoG Go.Proofs.YtmoopdhnnpjcfaaDoor.CoM Go.Proofs.YtmoopdhnnpjcfaaDoor.Rd
set_option linter.unusedVariables false
set_option linter.unusedSimpArgs false
set_option maxRecDepth 100000
abbrev C1 := S47
def spn (L : List Int) (last : C1) (a : Nat) : C1 × Nat × Int := if ge L a = 0 then (⟨nxt last.f0 (gx L a), e0⟩, a + gk L a, 0) else (⟨0, e0⟩, a, ge L a)
def spu (L : List Int) (a : Nat) : C1 × Nat × Int := if ge L a = 0 then (⟨gx L a, e0⟩, a + gk L a, 0) else (⟨0, e0⟩, a, ge L a)
def spt (L : List Int) (strict : Bool) (last : C1) (a : Nat) : C1 × Nat × Int :=
  if ge L a ≠ 0 then (⟨0, e0⟩, a, ge L a) else if (last.f1.size : Int) < gx L a then (⟨0, e0⟩, a, 3) else if be L (a + gk L a) (256 - gx L a) ≠ 0 then (⟨0, e0⟩, a + gk L a, be L (a + gk L a) (256 - gx L a))
  else if shared last.f1 (tt L a last.f1) ≠ (gx L a).toNat then (⟨0, e0⟩, ta L a, 6) else if strict = true ∧ Lib.validD (tt L a last.f1).data.toList = false then (⟨0, e0⟩, ta L a, 11)
  else (⟨0, tt L a last.f1⟩, ta L a, 0)
/-- The next cell: what, where, the error. -/
def sp (L : List Int) (k : Int) (i : Nat) (last : C1) (a : Nat) : C1 × Nat × Int := if k = 3 ∨ k = 4 then spt L (k == 4) last a else if i = 0 ∧ k ≠ 0 then spu L a else spn L last a
theorem one_text (K : Nat) (hK : 2600 ≤ K) {k : Int} (hk : k = 3 ∨ k = 4) (i f0 : Int) {L : List Int} {a e x pa e1 pb e2 : Int} {p : List Int} {last : ByteArray} (hs : last.size ≤ 256)
    (hU : deckleref03_Reader_Uint.f (K + 1) L a e (last.size : Int) = some (x, pa, e1)) (hx0 : 0 ≤ x) (hx1 : x ≤ last.size) (hB : deckleref03_Reader_Bytes.f (K + 1) L pa e1 (256 - x) = some (p, pb, e2)) (hT : (last.extract 0 x.toNat ++ strOfNums p).size ≤ 256) :
    deckleref09_one.f (K + 2) L a e k i f0 last = some (0, last.extract 0 x.toNat ++ strOfNums p, pb, if e2 ≠ 0 then e2 else if shared last (last.extract 0 x.toNat ++ strOfNums p) ≠ x.toNat then 6 else if k = 4 ∧ Lib.validD (last.extract 0 x.toNat ++ strOfNums p).data.toList = false then 11 else 0) := by
  have hw : IntKind.u64.wrap (last.size : Int) = (last.size : Int) := by rw [IntKind.wrap_u64]; omega
  have hwx : wrap64 x = x := w64 (by omega) (by omega)
  have hwm : wrap64 (256 - x) = 256 - x := w64 (by omega) (by omega)
  have hsz := hT
  rw [ByteArray.size_append] at hsz
  obtain ⟨T, hTe⟩ : ∃ T, last.extract 0 x.toNat ++ strOfNums p = T := ⟨_, rfl⟩
  have hj : deckleref09_one.j0 (K + 2) k i true L a e f0 last = some (0, T, pb, if e2 ≠ 0 then e2 else if shared last T ≠ x.toNat then 6 else if k = 4 ∧ Lib.validD T.data.toList = false then 11 else 0) := by
    unfold deckleref09_one.j0
    dsimp only
    rw [if_pos rfl, hw, hU]
    simp only [Option.bind_some]
    rw [hwx, hwm, hB]
    simp only [Option.bind_some]
    rw [if_pos hx0, if_pos hx1, if_pos (show (last.extract 0 x.toNat).size + (strOfNums p).size ≤ 9223372036854775807 by omega), hTe, refShared last T (by omega) (K + 1) (by omega)]
    simp only [Option.bind_some]
    have hm : ∀ (e : Int) (b : Bool) (q : Int), deckleref03_Reader_Must.f L pb e b q = some (pb, if e ≠ 0 then e else if b = true then 0 else q) := by
      intro e b q
      unfold deckleref03_Reader_Must.f
      by_cases h0 : e = 0
      · subst h0
        rw [if_pos rfl, if_neg (show ¬ ((0 : Int) ≠ 0) by decide)]
        cases b <;> simp
      · rw [if_neg h0, if_pos h0]
    rw [hm]
    simp only [Option.bind_some]
    have hxn : ((shared last T : Int) == x) = decide (shared last T = x.toNat) := by
      by_cases h : shared last T = x.toNat
      · rw [decide_eq_true h]; exact beq_iff_eq.mpr (by omega)
      · rw [decide_eq_false h]; exact beq_eq_false_iff_ne.mpr (by omega)
    rw [hxn]
    rcases hk with rfl | rfl
    · rw [if_pos rfl, hm]
      simp only [Option.bind_some]
      by_cases h0 : e2 = 0
      · subst h0
        by_cases h : shared last T = x.toNat
        · simp [h]
        · simp [h]
      · simp [h0]
    · rw [if_neg (by decide), refUTF8 T (by rw [← hTe]; omega) (K + 1) (by rw [← hTe]; omega)]
      simp only [Option.bind_some]
      rw [hm]
      simp only [Option.bind_some]
      by_cases h0 : e2 = 0
      · subst h0
        by_cases h : shared last T = x.toNat
        · by_cases hv : Lib.validD T.data.toList = true
          · simp [h, hv]
          · simp [h, hv]
        · simp [h]
      · simp [h0]
  unfold deckleref09_one.f
  rw [hTe]
  rcases hk with rfl | rfl
  · rw [if_pos rfl]; exact hj
  · rw [if_neg (by decide)]; exact hj
theorem one_is (K : Nat) (hK : 2600 ≤ K) {L : List Int} (hb : Bytes L) (hl : L.length ≤ 140737488351232) (k : Int) (i : Nat) (last : C1) (hs : last.f1.size ≤ 256) {a : Nat} (ha : a ≤ L.length) :
    ∃ x t, deckleref09_one.f (K + 2) L (a : Int) 0 k (i : Int) last.f0 last.f1 = some (x, t, ((sp L k i last a).2.1 : Int), (sp L k i last a).2.2) ∧ ((sp L k i last a).2.2 = 0 → (sp L k i last a).1 = ⟨x, t⟩) ∧ t.size ≤ 256 ∧ (sp L k i last a).2.1 ≤ L.length := by
  obtain ⟨f0, last⟩ := last
  dsimp only at hs ⊢
  unfold sp
  by_cases hk : k = 3 ∨ k = 4
  · rw [if_pos hk]
    have hz : ∀ {pa e1 : Int}, deckleref03_Reader_Bytes.f (K + 1) L pa e1 (256 - 0) = some (([] : List Int), pa, e1) → deckleref03_Reader_Uint.f (K + 1) L (a : Int) 0 (last.size : Int) = some (0, pa, e1) → e1 ≠ 0 →
        ∃ t : ByteArray, deckleref09_one.f (K + 2) L (a : Int) 0 k (i : Int) f0 last = some (0, t, pa, e1) ∧ t.size ≤ 256 := by
      intro pa e1 h1 h2 h3
      have hT : (last.extract 0 (0 : Int).toNat ++ strOfNums ([] : List Int)).size ≤ 256 := by
        rw [ByteArray.size_append, nums_size]; simp
      have := one_text K hK hk (i : Int) f0 hs h2 (by omega) (by omega) h1 hT
      rw [if_pos h3] at this
      exact ⟨_, this, hT⟩
    unfold spt
    by_cases hg : ge L a = 0
    case neg =>
      rw [if_pos hg]
      have hU := rUint_end hb hl ha (most := (last.size : Int)) (g_err hg) (.inl hg) (K + 1) (by omega)
      rw [if_neg hg] at hU
      obtain ⟨t, h1, h2⟩ := hz (rBytes_past ha hg _ _) hU hg
      exact ⟨0, t, h1, fun h => absurd h hg, h2, ha⟩
    rw [if_neg (by rw [hg]; simp)]
    obtain ⟨e, g1, g2, g3, g4, g5, g6⟩ := g_ok hb ha hg
    by_cases hlt : (last.size : Int) < gx L a
    · rw [if_pos hlt]
      have hU := rUint_end hb hl ha (most := (last.size : Int)) e (.inr hlt) (K + 1) (by omega)
      rw [if_pos rfl] at hU
      obtain ⟨t, h1, h2⟩ := hz (rBytes_past ha (by decide) _ _) hU (by decide)
      exact ⟨0, t, h1, fun h => absurd h (show ¬ ((3 : Int) = 0) by decide), h2, ha⟩
    rw [if_neg hlt]
    have hU := rUint_ok hb hl ha (most := (last.size : Int)) e (by omega) (K + 1) (by omega)
    have hxs : (gx L a).toNat ≤ last.size := by omega
    by_cases hbe : be L (a + gk L a) (256 - gx L a) = 0
    case neg =>
      rw [if_pos hbe]
      have hB := rBytes_end hb hl g5 (most := 256 - gx L a) (by omega) (b_err hbe) hbe (K + 1) (by omega)
      have hT : (last.extract 0 (gx L a).toNat ++ strOfNums ([] : List Int)).size ≤ 256 := by
        rw [ByteArray.size_append, nums_size, ext0_size hxs]; simp; omega
      have := one_text K hK hk (i : Int) f0 hs hU g1 (by omega) hB hT
      rw [if_pos hbe] at this
      exact ⟨0, _, this, fun h => absurd h hbe, hT, g5⟩
    rw [if_neg (by rw [hbe]; simp)]
    obtain ⟨eb, b1, b2, b3, b4, b5, b6, b7, b8, b9⟩ := b_ok hb g5 hbe
    have hB := rBytes_ok hb hl g5 (most := 256 - gx L a) (by omega) eb b2 (K + 1) (by omega)
    have hT : (last.extract 0 (gx L a).toNat ++ strOfNums (bx L (a + gk L a) (256 - gx L a))).size ≤ 256 := by
      rw [ByteArray.size_append, nums_size, ext0_size hxs, b3]; omega
    have ht := one_text K hK hk (i : Int) f0 hs hU g1 (by omega) hB hT
    rw [if_neg (show ¬ ((0 : Int) ≠ 0) by decide)] at ht
    have htt : tt L a last = last.extract 0 (gx L a).toNat ++ strOfNums (bx L (a + gk L a) (256 - gx L a)) := rfl
    have hta : ta L a = a + gk L a + bk L (a + gk L a) (256 - gx L a) := rfl
    rw [← htt, ← hta] at ht
    rw [← htt] at hT
    rw [← hta] at b2
    dsimp only
    by_cases hsh : shared last (tt L a last) = (gx L a).toNat
    case neg =>
      rw [if_pos hsh] at ht ⊢
      exact ⟨0, _, ht, fun h => absurd h (show ¬ ((6 : Int) = 0) by decide), hT, b2⟩
    rw [if_neg (by rw [hsh]; simp)] at ht ⊢
    have hk4 : ((k == 4) = true) ↔ k = 4 := beq_iff_eq
    by_cases hv : k = 4 ∧ Lib.validD (tt L a last).data.toList = false
    · rw [if_pos hv] at ht
      rw [if_pos ⟨hk4.2 hv.1, hv.2⟩]
      exact ⟨0, _, ht, fun h => absurd h (show ¬ ((11 : Int) = 0) by decide), hT, b2⟩
    · rw [if_neg hv] at ht
      rw [if_neg (fun h => hv ⟨hk4.1 h.1, h.2⟩)]
      exact ⟨0, _, ht, fun _ => rfl, hT, b2⟩
  · rw [if_neg hk]
    have hf : deckleref09_one.f (K + 2) L (a : Int) 0 k (i : Int) f0 last = if i = 0 ∧ k ≠ 0 then (deckleref03_Reader_Uint.f K L (a : Int) 0 18446744073709551615).bind (fun bt142 => some (bt142.1, (⟨#[]⟩ : ByteArray), bt142.2.1, bt142.2.2)) else (deckleref03_Reader_Int.f K L (a : Int) 0).bind (fun bt145 => some (IntKind.u64.wrap (f0 + (IntKind.u64.wrap (bt145.1))), (⟨#[]⟩ : ByteArray), bt145.2.1, bt145.2.2)) := by
      unfold deckleref09_one.f deckleref09_one.j0
      dsimp only
      rw [if_neg (fun h => hk (.inl h)), if_neg (show ¬ ((k == 4) = true) from fun h => hk (.inr (beq_iff_eq.1 h)))]
      unfold deckleref09_one.j1
      dsimp only
      by_cases hi : i = 0
      · subst hi
        by_cases h0 : k = 0
        · subst h0; simp
        · have : (k != 0) = true := bne_iff_ne.mpr h0
          simp [this, h0]
      · have : ¬ ((i : Int) = 0) := by omega
        simp [this, hi]
    rw [hf]
    by_cases hg : ge L a = 0
    · obtain ⟨e, g1, g2, g3, g4, g5, g6⟩ := g_ok hb ha hg
      by_cases hi : i = 0 ∧ k ≠ 0
      · rw [if_pos hi, if_pos hi, rUint_ok hb hl ha e (by omega) K (by omega)]
        unfold spu
        rw [if_pos hg]
        exact ⟨_, _, rfl, fun _ => rfl, by decide, g5⟩
      · rw [if_neg hi, if_neg hi, rInt_ok hb hl ha e K (by omega)]
        unfold spn
        rw [if_pos hg]
        exact ⟨_, _, rfl, fun _ => rfl, by decide, g5⟩
    · by_cases hi : i = 0 ∧ k ≠ 0
      · have hU := rUint_end hb hl ha (most := 18446744073709551615) (g_err hg) (.inl hg) K (by omega)
        rw [if_neg hg] at hU
        rw [if_pos hi, if_pos hi, hU]
        unfold spu
        rw [if_neg hg]
        exact ⟨_, _, rfl, fun h => absurd h hg, by decide, ha⟩
      · rw [if_neg hi, if_neg hi, rInt_end hb hl ha (g_err hg) hg K (by omega)]
        unfold spn
        rw [if_neg hg]
        exact ⟨_, _, rfl, fun h => absurd h hg, by decide, ha⟩
/-- m more cells, by steps. -/
def rl (L : List Int) (k : Int) : Nat → C1 → Nat → List C1 → Res
  | 0, _, a, xs => (xs, a, 0)
  | m + 1, last, a, xs => if (sp L k xs.length last a).2.2 = 0 then rl L k m (sp L k xs.length last a).1 (sp L k xs.length last a).2.1 (xs ++ [(sp L k xs.length last a).1]) else ([], (sp L k xs.length last a).2.1, (sp L k xs.length last a).2.2)
theorem rl_num {L : List Int} {k : Int} (hk : ¬(k = 3 ∨ k = 4)) : ∀ m last a xs, (k = 0 ∨ 0 < xs.length) → rl L k m last a xs = tnx L m a last.f0 xs
  | 0, last, a, xs, _ => rfl
  | m + 1, last, a, xs, h => by
    have e : sp L k xs.length last a = spn L last a := by
      unfold sp
      rw [if_neg hk, if_neg (by rintro ⟨h1, h2⟩; rcases h with h | h <;> omega)]
    rw [rl, tnx, e]
    unfold spn
    by_cases hg : ge L a = 0
    · rw [if_pos hg, if_pos hg, if_pos rfl]
      exact rl_num hk m _ _ _ (.inr (by rw [List.length_append]; simp))
    · rw [if_neg hg, if_neg hg, if_neg hg]
theorem rl_text {L : List Int} {k : Int} (hk : k = 3 ∨ k = 4) : ∀ m last a xs, rl L k m last a xs = ttx L (k == 4) m a last.f1 xs
  | 0, last, a, xs => rfl
  | m + 1, last, a, xs => by
    have e : sp L k xs.length last a = spt L (k == 4) last a := by unfold sp; rw [if_pos hk]
    rw [rl, ttx, e]
    by_cases hg : ge L a = 0
    case neg =>
      have hs : spt L (k == 4) last a = (⟨0, e0⟩, a, ge L a) := by unfold spt; rw [if_pos hg]
      rw [hs, if_neg hg, if_pos hg]
    have hgn : ¬ ge L a ≠ 0 := fun h => h hg
    by_cases hlt : (last.f1.size : Int) < gx L a
    · have hs : spt L (k == 4) last a = (⟨0, e0⟩, a, 3) := by unfold spt; rw [if_neg hgn, if_pos hlt]
      rw [hs, if_neg (show ¬ ((3 : Int) = 0) by decide), if_neg hgn, if_pos hlt]
    by_cases hbe : be L (a + gk L a) (256 - gx L a) = 0
    case neg =>
      have hs : spt L (k == 4) last a = (⟨0, e0⟩, a + gk L a, be L (a + gk L a) (256 - gx L a)) := by unfold spt; rw [if_neg hgn, if_neg hlt, if_pos hbe]
      rw [hs, if_neg hbe, if_neg hgn, if_neg hlt, if_pos hbe]
    have hbn : ¬ be L (a + gk L a) (256 - gx L a) ≠ 0 := fun h => h hbe
    by_cases hsh : shared last.f1 (tt L a last.f1) = (gx L a).toNat
    case neg =>
      have hs : spt L (k == 4) last a = (⟨0, e0⟩, ta L a, 6) := by unfold spt; rw [if_neg hgn, if_neg hlt, if_neg hbn, if_pos hsh]
      rw [hs, if_neg (show ¬ ((6 : Int) = 0) by decide), if_neg hgn, if_neg hlt, if_neg hbn, if_pos hsh]
    have hsn : ¬ shared last.f1 (tt L a last.f1) ≠ (gx L a).toNat := fun h => h hsh
    by_cases hv : (k == 4) = true ∧ Lib.validD (tt L a last.f1).data.toList = false
    · have hs : spt L (k == 4) last a = (⟨0, e0⟩, ta L a, 11) := by unfold spt; rw [if_neg hgn, if_neg hlt, if_neg hbn, if_neg hsn, if_pos hv]
      rw [hs, if_neg (show ¬ ((11 : Int) = 0) by decide), if_neg hgn, if_neg hlt, if_neg hbn, if_neg hsn, if_pos hv]
    · have hs : spt L (k == 4) last a = (⟨0, tt L a last.f1⟩, ta L a, 0) := by unfold spt; rw [if_neg hgn, if_neg hlt, if_neg hbn, if_neg hsn, if_neg hv]
      rw [hs, if_pos rfl, if_neg hgn, if_neg hlt, if_neg hbn, if_neg hsn, if_neg hv]
      exact rl_text hk m _ _ _
theorem rl_tk {L : List Int} {k : Int} (h0 : 0 ≤ k) (h5 : k ≤ 5) (h2 : k ≠ 2) {n : Nat} (hn : n ≤ 1024) : rl L k n ⟨0, e0⟩ 0 [] = tk L k (n : Int) 0 := by
  unfold tk
  rw [if_neg (by omega), if_neg (by omega), Int.toNat_natCast]
  by_cases hk : k = 0
  · rw [if_pos hk, rl_num (by omega) _ _ _ _ (.inl hk)]
  rw [if_neg hk, if_neg h2]
  by_cases h3 : k = 3
  · rw [if_pos h3, rl_text (.inl h3), show (k == 4) = false from beq_eq_false_iff_ne.mpr (by omega)]
  rw [if_neg h3]
  by_cases h4 : k = 4
  · rw [if_pos h4, rl_text (.inr h4), show (k == 4) = true from beq_iff_eq.mpr h4]
  rw [if_neg h4]
  unfold tnum
  cases n with
  | zero => rw [if_pos rfl]; rfl
  | succ m =>
    rw [if_neg (by omega), rl]
    have e : sp L k ([] : List C1).length ⟨0, e0⟩ 0 = spu L 0 := by
      unfold sp
      rw [if_neg (by omega), if_pos ⟨rfl, hk⟩]
    rw [e]
    unfold spu
    by_cases hg : ge L 0 = 0
    · rw [if_pos hg, if_pos hg, if_pos rfl]
      rw [rl_num (by omega) _ _ _ _ (.inr (by simp))]
      rfl
    · rw [if_neg hg, if_neg hg, if_neg hg]
end Go.Proofs.YtmoopdhnnpjcfaaDoor.Co
