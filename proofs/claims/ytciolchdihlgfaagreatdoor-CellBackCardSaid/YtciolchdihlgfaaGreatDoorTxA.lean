import Derived.Test.YtciolchdihlgfaaGreatDoorCeH
import Derived.Test.YtciolchdihlgfaaGreatDoorNum
/-! Cell: texts, and what is read of them: the plain law. -/
namespace Go.Proofs.YtciolchdihlgfaaGreatDoor.Tx
open Go.RowKit Go.Proofs.YtciolchdihlgfaaGreatDoorW.PrintWords Go.Proofs.YtciolchdihlgfaaGreatDoorW.PrintLast Go.Proofs.YtciolchdihlgfaaGreatDoorW.PrintMore Go.Proofs.YtciolchdihlgfaaGreatDoor.Wire Go.Proofs.YtciolchdihlgfaaGreatDoor.PCo Go.Proofs.YtciolchdihlgfaaGreatDoor.Co Go.Proofs.YtciolchdihlgfaaGreatDoor.Ce Go.Proofs.YtciolchdihlgfaaGreatDoor.Num
set_option linter.unusedVariables false
set_option linter.unusedSimpArgs false
set_option maxRecDepth 100000
/-! ### bytes to the base 16, and back -/
def dg (c : UInt8) : Option Nat := if 48 ≤ c.toNat ∧ c.toNat ≤ 57 then some (c.toNat - 48) else if 97 ≤ c.toNat ∧ c.toNat ≤ 102 then some (c.toNat - 87) else none
def unh : List UInt8 → Option (List UInt8)
  | [] => some []
  | [_] => none
  | a :: b :: r => match dg a, dg b, unh r with
    | some x, some y, some t => some (UInt8.ofNat (16 * x + y) :: t)
    | _, _, _ => none
theorem dg_hx : ∀ x : Fin 16, dg (hx_ x.val) = some x.val := by decide +kernel
theorem dg_hx' {x : Nat} (h : x < 16) : dg (hx_ x) = some x := dg_hx ⟨x, h⟩
theorem hx_dg : ∀ c : Fin 256, ∀ x, dg (UInt8.ofNat c.val) = some x → hx_ x = UInt8.ofNat c.val ∧ x < 16 := by
  intro c
  have key : ∀ c : Fin 256, (dg (UInt8.ofNat c.val)).all (fun x => hx_ x == UInt8.ofNat c.val && decide (x < 16)) = true := by decide +kernel
  intro x hx
  have := key c
  rw [hx] at this
  simpa using this
theorem hx_dg' {c : UInt8} {x : Nat} (h : dg c = some x) : hx_ x = c ∧ x < 16 := by
  have := hx_dg ⟨c.toNat, c.toNat_lt⟩ x (by rw [UInt8.ofNat_toNat]; exact h)
  rw [UInt8.ofNat_toNat] at this
  exact this
theorem hx_hd : ∀ x : Fin 16, hx_ x.val = hd x.val := by decide +kernel
theorem hx_hd' {x : Nat} (h : x < 16) : hx_ x = hd x := hx_hd ⟨x, h⟩
theorem hexs_cons (c : UInt8) (l : List UInt8) : hexs (c :: l) = hx_ (c.toNat / 16) :: hx_ (c.toNat % 16) :: hexs l := by unfold hexs; rw [List.flatMap_cons]; rfl
theorem unh_hexs : ∀ l, unh (hexs l) = some l
  | [] => rfl
  | c :: l => by
    have := c.toNat_lt
    rw [hexs_cons, unh, dg_hx' (by omega), dg_hx' (by omega), unh_hexs l]
    simp only
    rw [show 16 * (c.toNat / 16) + c.toNat % 16 = c.toNat by omega, UInt8.ofNat_toNat]
theorem hexs_unh : ∀ (n : Nat) (l t : List UInt8), l.length ≤ n → unh l = some t → hexs t = l
  | _, [], t, _, h => by rw [unh] at h; injection h with h; rw [← h]; rfl
  | _, [_], t, _, h => by rw [unh] at h; cases h
  | n + 1, a :: b :: r, t, hn, h => by
    rw [unh] at h
    split at h
    · rename_i x y t' hx hy ht
      injection h with h
      obtain ⟨h1, h2⟩ := hx_dg' hx
      obtain ⟨h3, h4⟩ := hx_dg' hy
      have ih := hexs_unh n r t' (by simp only [List.length_cons] at hn; omega) ht
      rw [← h, hexs_cons, ih, UInt8.toNat_ofNat', Nat.mod_eq_of_lt (by omega), show (16 * x + y) / 16 = x by omega, show (16 * x + y) % 16 = y by omega, h1, h3]
    · cases h
  | 0, a :: b :: r, t, hn, h => by simp at hn
/-- The bytes whose text this is. -/
def told (l : List UInt8) : Option (List UInt8) := if l = [45] then some [] else if l = [] then none else unh l
theorem hexs_first {l : List UInt8} (h : hexs l = [45]) : False := by
  have := congrArg List.length h
  rw [hexs_len] at this
  simp at this
  omega
theorem told_hexv (s : ByteArray) : told (hexv s).data.toList = some s.data.toList := by
  unfold hexv told
  by_cases h : s.size = 0
  · rw [if_pos h]
    rw [size_zero h]; rfl
  · rw [if_neg h]
    show (if (hexs s.data.toList).toArray.toList = [45] then _ else _) = _
    rw [List.toList_toArray, if_neg (fun e => hexs_first e), if_neg (fun e => ?_), unh_hexs]
    have := congrArg List.length e
    rw [hexs_len, data_length] at this
    simp at this
    omega
theorem hexv_told {l t : List UInt8} (h : told l = some t) : (hexv ⟨t.toArray⟩).data.toList = l := by
  unfold told at h
  split at h
  · rename_i e
    injection h with h
    rw [← h, e]; rfl
  · split at h
    · cases h
    · rename_i h1 h2
      have := hexs_unh _ l t (Nat.le_refl _) h
      unfold hexv
      have hne : ¬ (⟨t.toArray⟩ : ByteArray).size = 0 := by
        intro e
        have e2 : t.length = 0 := by
          have e3 : (⟨t.toArray⟩ : ByteArray).size = t.length := by show t.toArray.size = _; exact List.size_toArray
          rw [← e3]; exact e
        rw [List.length_eq_zero_iff.1 e2] at this
        exact h2 this.symm
      rw [if_neg hne]
      show (hexs t.toArray.toList).toArray.toList = l
      rw [List.toList_toArray, List.toList_toArray, this]
/-! ### a cell's text -/
abbrev TRUE : List UInt8 := [116, 114, 117, 101]
abbrev FALSE : List UInt8 := [102, 97, 108, 115, 101]
/-- As a number of either sign. -/
def zs (n : Int) : Int := if n < 9223372036854775808 then n else n - 18446744073709551616
/-- The other way about. -/
def zu (n : Int) : Int := if n < 0 then n + 18446744073709551616 else n
def tx (k n : Int) (s : ByteArray) : List UInt8 :=
  if k = 0 then Lib.itoa (zs n) else if k = 1 then Lib.decDigits n.toNat else if k = 2 then (if n = 1 then TRUE else FALSE) else if k = 5 then hexK 16 n.toNat else (hexv s).data.toList
/-- The text. -/
def ctx (k n : Int) (s : ByteArray) : ByteArray := ⟨(tx k n s).toArray⟩
abbrev E0 : ByteArray := ⟨#[]⟩
/-- What a text tells of a number, or that it tells none. -/
def num (k : Int) (l : List UInt8) : Option Int :=
  if k = 0 then (uns l).map zu else if k = 1 then (und l).map (fun (v : Nat) => (v : Int)) else if k = 2 then (if l = TRUE then some 1 else if l = FALSE then some 0 else none) else (unx l).map (fun (v : Nat) => (v : Int))
/-- The cell of a text, and why there is none. -/
def crd (k : Int) (l : List UInt8) : Int × ByteArray × Int :=
  if ¬ (0 ≤ k ∧ k < 6) then (0, E0, 10) else if k = 3 ∨ k = 4 then (match told l with
    | none => (0, E0, 6)
    | some t => if 256 < t.length then (0, E0, 7) else if k = 4 ∧ Lib.validD t = false then (0, E0, 11) else (0, ⟨t.toArray⟩, 0))
  else match num k l with
    | none => (0, E0, 6)
    | some n => (n, E0, 0)
theorem zs_rng {n : Int} (h : 0 ≤ n ∧ n < 18446744073709551616) : -9223372036854775808 ≤ zs n ∧ zs n ≤ 9223372036854775807 := by unfold zs; split <;> omega
theorem zu_rng {n : Int} (h : -9223372036854775808 ≤ n ∧ n ≤ 9223372036854775807) : 0 ≤ zu n ∧ zu n < 18446744073709551616 := by unfold zu; split <;> omega
theorem zu_zs {n : Int} (h : 0 ≤ n ∧ n < 18446744073709551616) : zu (zs n) = n := by unfold zu zs; (repeat' split) <;> omega
theorem zs_zu {n : Int} (h : -9223372036854775808 ≤ n ∧ n ≤ 9223372036854775807) : zs (zu n) = n := by unfold zu zs; (repeat' split) <;> omega
theorem num_rng {k : Int} {l : List UInt8} {n : Int} (h : num k l = some n) : 0 ≤ n ∧ n < 18446744073709551616 := by
  unfold num at h
  split at h
  · cases hu : uns l with
    | none => rw [hu] at h; cases h
    | some v =>
      rw [hu] at h
      injection h with h
      rw [← h]
      exact zu_rng (uns_some hu).2
  · split at h
    · cases hu : und l with
      | none => rw [hu] at h; cases h
      | some v =>
        rw [hu] at h
        injection h with h
        have := (und_some hu).2
        have h : (v : Int) = n := h
        exact ⟨by omega, by omega⟩
    · split at h
      · split at h
        · injection h with h; omega
        · split at h
          · injection h with h; omega
          · cases h
      · cases hu : unx l with
        | none => rw [hu] at h; cases h
        | some v =>
          rw [hu] at h
          injection h with h
          have := (unx_some hu).2
          have h : (v : Int) = n := h
          exact ⟨by omega, by omega⟩
theorem size0 {s : ByteArray} (h : s.size = 0) : s = E0 := size_zero h
theorem tx_num {k n : Int} (s : ByteArray) (hn : 0 ≤ n ∧ n < 18446744073709551616) (hk : 0 ≤ k ∧ k < 6) (h3 : ¬ (k = 3 ∨ k = 4)) (h2 : k = 2 → n ≤ 1) : num k (tx k n s) = some n := by
  unfold num tx
  by_cases k0 : k = 0
  · rw [if_pos k0, if_pos k0, uns_itoa (zs_rng hn).1 (zs_rng hn).2, Option.map_some, zu_zs hn]
  rw [if_neg k0, if_neg k0]
  by_cases k1 : k = 1
  · rw [if_pos k1, if_pos k1, und_dec (by omega), Option.map_some, Int.toNat_of_nonneg hn.1]
  rw [if_neg k1, if_neg k1]
  by_cases k2 : k = 2
  · rw [if_pos k2, if_pos k2]
    have := h2 k2
    by_cases e : n = 1
    · rw [if_pos e, if_pos rfl, e]
    · rw [if_neg e, if_neg (by decide), if_pos rfl, show n = 0 by omega]
  rw [if_neg k2, if_neg k2, if_pos (show k = 5 by omega), unx_hexK (by omega), Option.map_some, Int.toNat_of_nonneg hn.1]
theorem num_tx {k n : Int} {l : List UInt8} (s : ByteArray) (hk : 0 ≤ k ∧ k < 6) (h3 : ¬ (k = 3 ∨ k = 4)) (h : num k l = some n) : tx k n s = l ∧ (k = 2 → n ≤ 1) := by
  unfold num at h
  unfold tx
  by_cases k0 : k = 0
  · rw [if_pos k0] at h ⊢
    cases hu : uns l with
    | none => rw [hu] at h; cases h
    | some v =>
      rw [hu] at h
      injection h with h
      obtain ⟨e, hv⟩ := uns_some hu
      rw [← h, zs_zu hv]
      exact ⟨e, fun z => by omega⟩
  rw [if_neg k0] at h ⊢
  by_cases k1 : k = 1
  · rw [if_pos k1] at h ⊢
    cases hu : und l with
    | none => rw [hu] at h; cases h
    | some v =>
      rw [hu] at h
      injection h with h
      obtain ⟨e, hv⟩ := und_some hu
      rw [← h, Int.toNat_natCast]
      exact ⟨e, fun z => by omega⟩
  rw [if_neg k1] at h ⊢
  by_cases k2 : k = 2
  · rw [if_pos k2] at h ⊢
    by_cases e1 : l = TRUE
    · rw [if_pos e1] at h
      injection h with h
      rw [← h, if_pos rfl, e1]
      exact ⟨rfl, fun _ => by omega⟩
    · rw [if_neg e1] at h
      by_cases e2 : l = FALSE
      · rw [if_pos e2] at h
        injection h with h
        rw [← h, if_neg (by decide), e2]
        exact ⟨rfl, fun _ => by omega⟩
      · rw [if_neg e2] at h; cases h
  rw [if_neg k2] at h ⊢
  rw [if_pos (show k = 5 by omega)]
  cases hu : unx l with
  | none => rw [hu] at h; cases h
  | some v =>
    rw [hu] at h
    injection h with h
    obtain ⟨e, hv⟩ := unx_some hu
    rw [← h, Int.toNat_natCast]
    exact ⟨e, fun z => by omega⟩
theorem tx_text {k n : Int} (s : ByteArray) (h3 : k = 3 ∨ k = 4) : tx k n s = (hexv s).data.toList := by
  unfold tx
  rw [if_neg (by omega), if_neg (by omega), if_neg (by omega), if_neg (by omega)]
theorem list_self (s : ByteArray) : (⟨s.data.toList.toArray⟩ : ByteArray) = s := by obtain ⟨a⟩ := s; simp
theorem crd_tx {k n : Int} {s : ByteArray} (hn : 0 ≤ n ∧ n < 18446744073709551616) (h : chk k n s = 0) : crd k (tx k n s) = (n, s, 0) := by
  unfold chk at h
  split at h
  · omega
  rename_i hk
  unfold crd
  rw [if_neg (by omega)]
  by_cases h3 : k = 3 ∨ k = 4
  · rw [if_pos h3] at h ⊢
    rw [tx_text s h3, told_hexv]
    split at h
    · omega
    rename_i h4
    split at h
    · omega
    rename_i h5
    split at h
    · omega
    rename_i h6
    simp only
    rw [if_neg (by rw [data_length]; exact h6), if_neg h5, list_self, Decidable.not_not.1 h4]
  · rw [if_neg h3] at h ⊢
    split at h
    · omega
    rename_i h4
    split at h
    · omega
    rename_i h5
    rw [tx_num s hn (by omega) h3 (fun e => by omega)]
    simp only
    rw [size0 (Decidable.not_not.1 h4)]
theorem tx_crd {k n : Int} {l : List UInt8} {t : ByteArray} (h : crd k l = (n, t, 0)) : tx k n t = l ∧ chk k n t = 0 ∧ 0 ≤ n ∧ n < 18446744073709551616 := by
  unfold crd at h
  unfold chk
  split at h
  · injection h with _ h; injection h with _ h; omega
  rename_i hk
  have hk' : 0 ≤ k ∧ k < 6 := Decidable.not_not.1 hk
  rw [if_neg (by omega)]
  by_cases h3 : k = 3 ∨ k = 4
  · rw [if_pos h3] at h ⊢
    rw [tx_text t h3]
    cases ht : told l with
    | none => rw [ht] at h; injection h with _ h; injection h with _ h; omega
    | some u =>
      rw [ht] at h
      simp only at h
      split at h
      · injection h with _ h; injection h with _ h; omega
      rename_i h4
      split at h
      · injection h with _ h; injection h with _ h; omega
      rename_i h5
      injection h with h6 h7
      injection h7 with h7 h8
      subst h6 h7
      refine ⟨hexv_told ht, ?_, by decide, by decide⟩
      have e : (⟨u.toArray⟩ : ByteArray).data.toList = u := List.toList_toArray ..
      have e2 : (⟨u.toArray⟩ : ByteArray).size = u.length := by show u.toArray.size = _; exact List.size_toArray ..
      rw [if_neg (by simp), e, if_neg h5, e2, if_neg h4]
  · rw [if_neg h3] at h ⊢
    cases hq : num k l with
    | none => rw [hq] at h; injection h with _ h; injection h with _ h; omega
    | some v =>
      rw [hq] at h
      injection h with h6 h7
      injection h7 with h7 h8
      subst h6 h7
      obtain ⟨e1, e2⟩ := num_tx E0 hk' h3 hq
      refine ⟨e1, ?_, num_rng hq⟩
      rw [if_neg (by simp; rfl), if_neg (fun z => by have := e2 z.1; omega)]
/-- Of no cell: nothing is told. -/
theorem crd_no {k : Int} {l : List UInt8} (h : (crd k l).2.2 ≠ 0) : (crd k l).1 = 0 ∧ (crd k l).2.1 = E0 := by
  unfold crd at h ⊢
  split
  · exact ⟨rfl, rfl⟩
  rename_i hk
  rw [if_neg hk] at h
  split
  · rename_i h3
    rw [if_pos h3] at h
    split
    · exact ⟨rfl, rfl⟩
    · rename_i t ht
      rw [ht] at h
      simp only at h
      split
      · exact ⟨rfl, rfl⟩
      rename_i h4
      rw [if_neg h4] at h
      split
      · exact ⟨rfl, rfl⟩
      rename_i h5
      rw [if_neg h5] at h
      exact absurd rfl h
  · rename_i h3
    rw [if_neg h3] at h
    split
    · exact ⟨rfl, rfl⟩
    · rename_i t ht
      rw [ht] at h
      exact absurd rfl h
theorem hexv_len (s : ByteArray) : (hexv s).size ≤ 2 * s.size + 1 := by
  unfold hexv
  split
  · show (#[45] : Array UInt8).size ≤ _; simp
  · show (hexs s.data.toList).toArray.size ≤ _
    rw [List.size_toArray, hexs_len, data_length]; omega
end Go.Proofs.YtciolchdihlgfaaGreatDoor.Tx
