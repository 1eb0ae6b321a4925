import Derived.Test.YtmoopdhnnpjcfaaDoorCoFF
/-! Column: what is taken, of each kind. -/
namespace Go.Proofs.YtmoopdhnnpjcfaaDoor.Co
open Go.RowKit Go.Proofs.YtmoopdhnnpjcfaaDoorW.PrintWords Go.Proofs.YtmoopdhnnpjcfaaDoorW.PrintLast Go.Proofs.YtmoopdhnnpjcfaaDoorW.PrintMore Go.Proofs.YtmoopdhnnpjcfaaDoor.Wire Go.Proofs.YtmoopdhnnpjcfaaDoor.PCo Go.Proofs.YtmoopdhnnpjcfaaDoor.CoG Go.Proofs.YtmoopdhnnpjcfaaDoor.Rd
set_option linter.unusedVariables false
set_option linter.unusedSimpArgs false
set_option maxRecDepth 100000
abbrev Res := List S47 × Nat × Int
/-! numbers of bytes -/
def gx (l : List Int) (a : Nat) : Int := (gu (l.drop a)).1
def gk (l : List Int) (a : Nat) : Nat := (gu (l.drop a)).2.1.toNat
def ge (l : List Int) (a : Nat) : Int := (gu (l.drop a)).2.2
theorem g_ok {l : List Int} (hb : Bytes l) {a : Nat} (ha : a ≤ l.length) (h : ge l a = 0) :
    gu (l.drop a) = (gx l a, (gk l a : Int), 0) ∧ 0 ≤ gx l a ∧ gx l a < 18446744073709551616 ∧ 1 ≤ gk l a ∧ gk l a ≤ 10 ∧ a + gk l a ≤ l.length ∧ uv (gx l a).toNat = (l.drop a).take (gk l a) := by
  obtain ⟨y, h1, h2, h3, h4, h5, e⟩ := gu_ok (hb.drop a) h
  unfold gx gk
  rw [e]
  dsimp only
  rw [Int.toNat_natCast, Int.toNat_natCast]
  rw [List.length_drop] at h2
  exact ⟨rfl, by omega, by omega, h3, h4, by omega, h1⟩
theorem g_err {l : List Int} {a : Nat} (h : ge l a ≠ 0) : gu (l.drop a) = (0, 0, ge l a) := gu_err h
theorem g_at {l : List Int} {a x : Nat} (hx : x < 18446744073709551616) {t : List Int} (h : l.drop a = uv x ++ t) : ge l a = 0 ∧ gx l a = (x : Int) ∧ gk l a = usz x := by
  unfold ge gx gk
  rw [h, gu_uv hx]
  exact ⟨rfl, rfl, Int.toNat_natCast _⟩
/-! bytes of bytes -/
def bx (l : List Int) (a : Nat) (m : Int) : List Int := (gb (l.drop a) m).1
def bk (l : List Int) (a : Nat) (m : Int) : Nat := (gb (l.drop a) m).2.1.toNat
def be (l : List Int) (a : Nat) (m : Int) : Int := (gb (l.drop a) m).2.2
theorem gb_eq (l : List Int) (a : Nat) (m : Int) : gb (l.drop a) m = if ge l a ≠ 0 then ([], 0, ge l a) else if m < 0 ∨ gx l a > m then ([], 0, 13) else if gx l a > ((l.drop a).length : Int) - (gu (l.drop a)).2.1 then ([], 0, 5)
    else (((l.drop a).take ((gu (l.drop a)).2.1.toNat + (gu (l.drop a)).1.toNat)).drop (gu (l.drop a)).2.1.toNat, (gu (l.drop a)).2.1 + (gu (l.drop a)).1, 0) := rfl
theorem b_ok {l : List Int} (hb : Bytes l) {a : Nat} (ha : a ≤ l.length) {m : Int} (h : be l a m = 0) :
    gb (l.drop a) m = (bx l a m, (bk l a m : Int), 0) ∧ 1 ≤ bk l a m ∧ a + bk l a m ≤ l.length ∧ (bx l a m).length = (gx l a).toNat ∧ 0 ≤ gx l a ∧ gx l a ≤ m ∧ Bytes (bx l a m) ∧ ge l a = 0 ∧ bk l a m = gk l a + (gx l a).toNat ∧
      (l.drop a).take (bk l a m) = uv (bx l a m).length ++ bx l a m := by
  unfold be at h
  unfold bx bk
  rw [gb_eq] at h ⊢
  by_cases h1 : ge l a = 0
  · obtain ⟨e, g1, g2, g3, g4, g5, g6⟩ := g_ok hb ha h1
    rw [if_neg (by rw [h1]; simp)] at h ⊢
    by_cases h2 : m < 0 ∨ gx l a > m
    · rw [if_pos h2] at h; simp at h
    · rw [if_neg h2] at h ⊢
      by_cases h3 : gx l a > ((l.drop a).length : Int) - (gu (l.drop a)).2.1
      · rw [if_pos h3] at h; simp at h
      · rw [if_neg h3]
        rw [e] at h3 ⊢
        dsimp only at h3 ⊢
        rw [List.length_drop] at h3
        have hk : ((gk l a : Int) + gx l a).toNat = gk l a + (gx l a).toNat := by omega
        have hlen : (((l.drop a).take (gk l a + (gx l a).toNat)).drop (gk l a)).length = (gx l a).toNat := by
          rw [List.length_drop, List.length_take, List.length_drop]; omega
        rw [hk, Int.toNat_natCast]
        refine ⟨by rw [show ((gk l a + (gx l a).toNat : Nat) : Int) = (gk l a : Int) + gx l a by omega], by omega, by omega, hlen, g1, by omega, ((hb.drop a).take _).drop _, h1, rfl, ?_⟩
        rw [hlen, g6]
        rw [show (l.drop a).take (gk l a) = ((l.drop a).take (gk l a + (gx l a).toNat)).take (gk l a) by rw [List.take_take, Nat.min_eq_left (by omega)], List.take_append_drop]
  · rw [if_pos h1] at h
    exact absurd h h1
theorem b_err {l : List Int} {a : Nat} {m : Int} (h : be l a m ≠ 0) : gb (l.drop a) m = ([], 0, be l a m) := by
  unfold be at h ⊢
  rw [gb_eq] at h ⊢
  split
  · rfl
  · rename_i h1
    rw [if_neg h1] at h
    split
    · rfl
    · rename_i h2
      rw [if_neg h2] at h
      split
      · rfl
      · rename_i h3
        rw [if_neg h3] at h
        exact absurd rfl h
theorem b_at {l : List Int} {a : Nat} {m : Int} {p t : List Int} (hp : (p.length : Int) ≤ m) (hpl : p.length ≤ 140737488351232) (h : l.drop a = uv p.length ++ (p ++ t)) : be l a m = 0 ∧ bx l a m = p ∧ bk l a m = (uv p.length ++ p).length := by
  obtain ⟨g1, g2, g3⟩ := g_at (x := p.length) (by omega) h
  have hlen := congrArg List.length h
  rw [List.length_append, List.length_append] at hlen
  have hu : (uv p.length).length = usz p.length := rfl
  have e : gb (l.drop a) m = (p, ((uv p.length ++ p).length : Int), 0) := by
    rw [gb_eq, if_neg (by rw [g1]; simp), if_neg (by rw [g2]; omega)]
    have hgu : gu (l.drop a) = ((p.length : Int), (usz p.length : Int), 0) := by rw [h]; exact gu_uv (by omega) _
    rw [hgu, if_neg (by rw [g2]; dsimp only; omega)]
    dsimp only
    rw [Int.toNat_natCast, Int.toNat_natCast, h, ← List.append_assoc, ← hu, List.take_left' (by rw [List.length_append]), List.drop_left' rfl, List.length_append]
    simp
  unfold be bx bk
  rw [e]
  exact ⟨rfl, rfl, Int.toNat_natCast _⟩
/-! ### what is taken -/
def nxt (last x : Int) : Int := IntKind.u64.wrap (last + IntKind.u64.wrap (zagS x))
def tnx (l : List Int) : Nat → Nat → Int → List S47 → Res
  | 0, a, _, xs => (xs, a, 0)
  | m + 1, a, last, xs => if ge l a = 0 then tnx l m (a + gk l a) (nxt last (gx l a)) (xs ++ [⟨nxt last (gx l a), e0⟩]) else ([], a, ge l a)
def tnum (l : List Int) (n a : Nat) : Res := if n = 0 then ([], a, 0) else if ge l a = 0 then tnx l (n - 1) (a + gk l a) (gx l a) [⟨gx l a, e0⟩] else ([], a, ge l a)
def tt (l : List Int) (a : Nat) (last : ByteArray) : ByteArray := last.extract 0 (gx l a).toNat ++ strOfNums (bx l (a + gk l a) (256 - gx l a))
def ta (l : List Int) (a : Nat) : Nat := a + gk l a + bk l (a + gk l a) (256 - gx l a)
def ttx (l : List Int) (strict : Bool) : Nat → Nat → ByteArray → List S47 → Res
  | 0, a, _, xs => (xs, a, 0)
  | m + 1, a, last, xs =>
    if ge l a ≠ 0 then ([], a, ge l a) else if (last.size : Int) < gx l a then ([], a, 3) else if be l (a + gk l a) (256 - gx l a) ≠ 0 then ([], a + gk l a, be l (a + gk l a) (256 - gx l a))
    else if shared last (tt l a last) ≠ (gx l a).toNat then ([], ta l a, 6) else if strict = true ∧ Lib.validD (tt l a last).data.toList = false then ([], ta l a, 11)
    else ttx l strict m (ta l a) (tt l a last) (xs ++ [⟨0, tt l a last⟩])
/-- So many cells of a kind, from a place on. -/
def tk (l : List Int) (k n : Int) (a : Nat) : Res :=
  if ¬(0 ≤ k ∧ k ≤ 5) then ([], a, 10) else if ¬(0 ≤ n ∧ n ≤ 1024) then ([], a, 3)
  else if k = 0 then tnx l n.toNat a 0 [] else if k = 2 then tb l n.toNat (n.toNat + 1) a [] else if k = 3 then ttx l false n.toNat a e0 [] else if k = 4 then ttx l true n.toNat a e0 [] else tnum l n.toNat a
theorem tnx_le {l : List Int} (hb : Bytes l) : ∀ m a last xs, a ≤ l.length → (tnx l m a last xs).2.1 ≤ l.length
  | 0, a, last, xs, h => h
  | m + 1, a, last, xs, h => by
    rw [tnx]
    split
    · rename_i he
      exact tnx_le hb m _ _ _ (g_ok hb h he).2.2.2.2.2.1
    · exact h
theorem ta_le {l : List Int} (hb : Bytes l) {a : Nat} (ha : a ≤ l.length) (h1 : ge l a = 0) (h2 : be l (a + gk l a) (256 - gx l a) = 0) : ta l a ≤ l.length :=
  (b_ok hb (g_ok hb ha h1).2.2.2.2.2.1 h2).2.2.1
theorem ttx_le {l : List Int} (hb : Bytes l) (strict : Bool) : ∀ m a last xs, a ≤ l.length → (ttx l strict m a last xs).2.1 ≤ l.length
  | 0, a, last, xs, h => h
  | m + 1, a, last, xs, h => by
    rw [ttx]
    split
    · exact h
    · rename_i h1
      have h1 : ge l a = 0 := Decidable.not_not.1 h1
      have g := (g_ok hb h h1).2.2.2.2.2.1
      split
      · exact h
      · split
        · exact g
        · rename_i h2
          have h3 := ta_le hb h h1 (Decidable.not_not.1 h2)
          split
          · exact h3
          · split
            · exact h3
            · exact ttx_le hb strict m _ _ _ h3
theorem tb_le (l : List Int) (n : Nat) : ∀ f a xs, a ≤ l.length → (tb l n f a xs).2.1 ≤ l.length
  | 0, a, xs, h => h
  | f + 1, a, xs, h => by
    rw [tb]
    split
    · split
      · split
        · exact tb_le l n f _ _ (by omega)
        · show a + 1 ≤ l.length; omega
      · exact h
    · exact h
theorem tk_le {l : List Int} (hb : Bytes l) (k n : Int) {a : Nat} (ha : a ≤ l.length) : (tk l k n a).2.1 ≤ l.length := by
  unfold tk
  split
  · exact ha
  · split
    · exact ha
    · split
      · exact tnx_le hb _ _ _ _ ha
      · split
        · exact tb_le _ _ _ _ _ ha
        · split
          · exact ttx_le hb _ _ _ _ _ ha
          · split
            · exact ttx_le hb _ _ _ _ _ ha
            · unfold tnum
              split
              · exact ha
              · split
                · rename_i he
                  exact tnx_le hb _ _ _ _ (g_ok hb ha he).2.2.2.2.2.1
                · exact ha
end Go.Proofs.YtmoopdhnnpjcfaaDoor.Co
