import Derived.Test.YtmoopdhnnpjcfaaDoorGCo
namespace Go.Proofs.YtmoopdhnnpjcfaaDoor.CoM
open Go.RowKit Go.Proofs.YtmoopdhnnpjcfaaDoorW.PrintWords Go.Proofs.YtmoopdhnnpjcfaaDoorW.PrintLast Go.Proofs.YtmoopdhnnpjcfaaDoorW.PrintMore Go.Proofs.YtmoopdhnnpjcfaaDoor.Wire Go.Proofs.YtmoopdhnnpjcfaaDoor.PCo Go.Proofs.YtmoopdhnnpjcfaaDoor.CoG
set_option linter.unusedVariables false
set_option linter.unusedSimpArgs false
/-! The document's reader, as functions of what is left. -/
theorem gu_len {l : List Int} (hb : Bytes l) (h : (gu l).2.2 = 0) : ∃ n : Nat, (gu l).2.1 = n ∧ 1 ≤ n ∧ n ≤ l.length ∧ 0 ≤ (gu l).1 ∧ (gu l).1 < 18446744073709551616 := by
  obtain ⟨y, h1, h2, h3, h4, h5, e⟩ := gu_ok hb h
  rw [e]
  exact ⟨usz y, rfl, h3, h2, by dsimp only; omega, by dsimp only; omega⟩
theorem rByte_ok {l : List Int} {a : Nat} (ha : a < l.length) : deckleref03_Reader_Byte.f l (a : Int) 0 = some (rd l (a : Int), ((a + 1 : Nat) : Int), 0) := by
  unfold deckleref03_Reader_Byte.f
  rw [if_pos (by omega), if_neg (by simp), if_neg (by omega)]; rfl
theorem rByte_end (l : List Int) : deckleref03_Reader_Byte.f l (l.length : Int) 0 = some (0, (l.length : Int), 5) := by
  unfold deckleref03_Reader_Byte.f
  rw [if_pos (by omega), if_neg (by simp), if_pos rfl]
theorem rUint_ok {l : List Int} (hb : Bytes l) (hl : l.length ≤ 140737488351232) {a : Nat} (ha : a ≤ l.length) {most x : Int} {n : Nat} (hg : gu (l.drop a) = (x, (n : Int), 0)) (hx : x ≤ most) (k : Nat) (hk : 30 ≤ k) :
    deckleref03_Reader_Uint.f k l (a : Int) 0 most = some (x, ((a + n : Nat) : Int), 0) := by
  obtain ⟨m, e1, h1, h2, -⟩ := gu_len (hb.drop a) (by rw [hg])
  rw [hg] at e1
  rw [List.length_drop] at h2
  dsimp only at e1
  unfold deckleref03_Reader_Uint.f
  rw [if_pos (by omega), if_neg (by simp), Int.toNat_natCast, refGetUint (l.drop a) (hb.drop a) (by rw [List.length_drop]; omega) k hk, hg]
  simp only [Option.bind_some]
  unfold deckleref03_Reader_Uint.g
  dsimp only
  rw [if_neg (by simp), if_neg (by omega), if_pos (by omega)]; rfl
theorem rUint_end {l : List Int} (hb : Bytes l) (hl : l.length ≤ 140737488351232) {a : Nat} (ha : a ≤ l.length) {most x n e : Int} (hg : gu (l.drop a) = (x, n, e)) (he : e ≠ 0 ∨ most < x) (k : Nat) (hk : 30 ≤ k) :
    deckleref03_Reader_Uint.f k l (a : Int) 0 most = some (0, (a : Int), if e = 0 then 3 else e) := by
  unfold deckleref03_Reader_Uint.f
  rw [if_pos (by omega), if_neg (by simp), Int.toNat_natCast, refGetUint (l.drop a) (hb.drop a) (by rw [List.length_drop]; omega) k hk, hg]
  simp only [Option.bind_some]
  unfold deckleref03_Reader_Uint.g
  dsimp only
  by_cases h : e = 0
  · rw [if_neg (by simpa using h), if_pos (by omega), if_pos h]
  · rw [if_pos h, if_neg h]
theorem rUint_past {l : List Int} {a : Nat} (ha : a ≤ l.length) {er : Int} (he : er ≠ 0) (most : Int) (k : Nat) : deckleref03_Reader_Uint.f k l (a : Int) er most = some (0, (a : Int), er) := by
  unfold deckleref03_Reader_Uint.f
  rw [if_pos (by omega), if_pos he]
theorem zag0 : deckleref01_Zag.f 0 = some 0 := by
  have := refZag (x := 0) (by decide) (by decide)
  rw [this]; rfl
theorem rInt_ok {l : List Int} (hb : Bytes l) (hl : l.length ≤ 140737488351232) {a : Nat} (ha : a ≤ l.length) {x : Int} {n : Nat} (hg : gu (l.drop a) = (x, (n : Int), 0)) (k : Nat) (hk : 30 ≤ k) :
    deckleref03_Reader_Int.f k l (a : Int) 0 = some (zagS x, ((a + n : Nat) : Int), 0) := by
  obtain ⟨m, e1, h1, h2, h3, h4⟩ := gu_len (hb.drop a) (by rw [hg])
  rw [hg] at h3 h4
  dsimp only at h3 h4
  unfold deckleref03_Reader_Int.f
  rw [rUint_ok hb hl ha hg (by omega) k hk]
  simp only [Option.bind_some]
  rw [refZag h3 h4]; rfl
theorem rInt_end {l : List Int} (hb : Bytes l) (hl : l.length ≤ 140737488351232) {a : Nat} (ha : a ≤ l.length) {x n e : Int} (hg : gu (l.drop a) = (x, n, e)) (he : e ≠ 0) (k : Nat) (hk : 30 ≤ k) :
    deckleref03_Reader_Int.f k l (a : Int) 0 = some (0, (a : Int), e) := by
  unfold deckleref03_Reader_Int.f
  rw [rUint_end hb hl ha hg (.inl he) k hk]
  simp only [Option.bind_some]
  rw [zag0, if_neg he]; rfl
theorem rInt_past {l : List Int} {a : Nat} (ha : a ≤ l.length) {er : Int} (he : er ≠ 0) (k : Nat) : deckleref03_Reader_Int.f k l (a : Int) er = some (0, (a : Int), er) := by
  unfold deckleref03_Reader_Int.f
  rw [rUint_past ha he]
  simp only [Option.bind_some]
  rw [zag0]; rfl
theorem rBytes_ok {l : List Int} (hb : Bytes l) (hl : l.length ≤ 140737488351232) {a : Nat} (ha : a ≤ l.length) {most : Int} (hm : most ≤ 9223372036854775807) {p : List Int} {n : Nat} (hg : gb (l.drop a) most = (p, (n : Int), 0)) (hn : a + n ≤ l.length) (k : Nat) (hk : 30 ≤ k) :
    deckleref03_Reader_Bytes.f k l (a : Int) 0 most = some (p, ((a + n : Nat) : Int), 0) := by
  unfold deckleref03_Reader_Bytes.f
  rw [if_pos (by omega), if_neg (by simp), Int.toNat_natCast, refGetBytes (l.drop a) (hb.drop a) (by rw [List.length_drop]; omega) most hm k hk, hg]
  simp only [Option.bind_some]
  unfold deckleref03_Reader_Bytes.g
  dsimp only
  rw [if_neg (by simp), if_pos (by omega)]; rfl
theorem rBytes_end {l : List Int} (hb : Bytes l) (hl : l.length ≤ 140737488351232) {a : Nat} (ha : a ≤ l.length) {most : Int} (hm : most ≤ 9223372036854775807) {p : List Int} {n e : Int} (hg : gb (l.drop a) most = (p, n, e)) (he : e ≠ 0) (k : Nat) (hk : 30 ≤ k) :
    deckleref03_Reader_Bytes.f k l (a : Int) 0 most = some ([], (a : Int), e) := by
  unfold deckleref03_Reader_Bytes.f
  rw [if_pos (by omega), if_neg (by simp), Int.toNat_natCast, refGetBytes (l.drop a) (hb.drop a) (by rw [List.length_drop]; omega) most hm k hk, hg]
  simp only [Option.bind_some]
  unfold deckleref03_Reader_Bytes.g
  dsimp only
  rw [if_pos he]
theorem rBytes_past {l : List Int} {a : Nat} (ha : a ≤ l.length) {er : Int} (he : er ≠ 0) (most : Int) (k : Nat) : deckleref03_Reader_Bytes.f k l (a : Int) er most = some ([], (a : Int), er) := by
  unfold deckleref03_Reader_Bytes.f
  rw [if_pos (by omega), if_pos he]
theorem rByte_past {l : List Int} {a : Nat} (ha : a ≤ l.length) {er : Int} (he : er ≠ 0) : deckleref03_Reader_Byte.f l (a : Int) er = some (0, (a : Int), er) := by
  unfold deckleref03_Reader_Byte.f
  rw [if_pos (by omega), if_pos he]
end Go.Proofs.YtmoopdhnnpjcfaaDoor.CoM
