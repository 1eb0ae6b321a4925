import Derived.Lib.ItoaNum
import Derived.Lib.ParseIntB
/-! Texts of numbers: decimals, 16 digits to the base 16; and what is read of them. -/
namespace Go.Proofs.YtciolchdihlgfaaGreatDoor.Num
open Go.Lib
set_option linter.unusedVariables false
set_option linter.unusedSimpArgs false
/-! ### decimals -/
def isD (c : UInt8) : Prop := 48 ≤ c.toNat ∧ c.toNat ≤ 57
/-- What digits spell, behind a number. -/
def dval (acc : Nat) (l : List UInt8) : Nat := l.foldl (fun a c => a * 10 + (c.toNat - 48)) acc
theorem dval_nil (a : Nat) : dval a [] = a := rfl
theorem dval_cons (a : Nat) (c : UInt8) (r : List UInt8) : dval a (c :: r) = dval (a * 10 + (c.toNat - 48)) r := by unfold dval; rw [List.foldl_cons]
attribute [local irreducible] dval
theorem dval_app (l m : List UInt8) : ∀ a, dval a (l ++ m) = dval (dval a l) m := by
  induction l with
  | nil => intro a; rw [List.nil_append, dval_nil]
  | cons c r ih => intro a; rw [List.cons_append, dval_cons, dval_cons, ih]
theorem dval_ge : ∀ (l : List UInt8) (a : Nat), a ≤ dval a l
  | [], a => by rw [dval_nil]; exact Nat.le_refl _
  | c :: r, a => by
    have := dval_ge r (a * 10 + (c.toNat - 48))
    rw [dval_cons]; omega
theorem one_nat {i : Nat} (h : i < 10) : (UInt8.ofNat (48 + i)).toNat = 48 + i := by rw [UInt8.toNat_ofNat']; omega
theorem dec_step {u : Nat} (h : ¬ u < 10) : decDigits u = decDigits (u / 10) ++ [UInt8.ofNat (48 + u % 10)] := by rw [decDigits, dif_neg h]
theorem dec_isD (u : Nat) : ∀ c ∈ decDigits u, isD c := by
  induction u using Nat.strongRecOn with
  | _ u ih =>
    intro c hc
    by_cases h : u < 10
    · rw [decDigits_one h] at hc
      rw [List.mem_singleton.1 hc]
      unfold isD
      rw [one_nat h]; omega
    · rw [dec_step h] at hc
      rcases List.mem_append.1 hc with hc | hc
      · exact ih _ (by omega) c hc
      · rw [List.mem_singleton.1 hc]
        unfold isD
        rw [one_nat (by omega)]; omega
theorem dval_dec (u : Nat) : dval 0 (decDigits u) = u := by
  induction u using Nat.strongRecOn with
  | _ u ih =>
    by_cases h : u < 10
    · rw [decDigits_one h, dval_cons, dval_nil, one_nat h]; omega
    · rw [dec_step h, dval_app, ih _ (by omega), dval_cons, dval_nil, one_nat (by omega)]; omega
theorem dec_ne (u : Nat) : decDigits u ≠ [] := by
  intro e
  have := decDigits_length u
  rw [e] at this
  have := nDigits_pos u
  simp at *
  omega
theorem dec_inj {u v : Nat} (h : decDigits u = decDigits v) : u = v := by rw [← dval_dec u, h, dval_dec]
theorem parse_ok : ∀ (l : List UInt8) (acc : Nat), (∀ c ∈ l, isD c) → dval acc l < 18446744073709551616 → parseUintM (2 ^ 64 - 1) acc l = .ok (dval acc l)
  | [], acc, _, _ => by rw [dval_nil]; rfl
  | c :: r, acc, hd, hl => by
    have hc := hd c (List.mem_cons_self ..)
    rw [dval_cons] at hl
    have := dval_ge r (acc * 10 + (c.toNat - 48))
    rw [parseUintM, if_pos (show 48 ≤ c.toNat ∧ c.toNat ≤ 57 from hc), if_neg (by omega), if_neg (by omega), dval_cons]
    exact parse_ok r _ (fun x hx => hd x (List.mem_cons_of_mem _ hx)) hl
theorem parse_dec {u : Nat} (h : u < 18446744073709551616) : parseUintB 64 (decDigits u) = .ok u := by
  unfold parseUintB
  rw [if_neg (dec_ne u), parse_ok _ 0 (dec_isD u) (by rw [dval_dec]; exact h), dval_dec]
/-- The number whose decimals these are. -/
def und (l : List UInt8) : Option Nat := match parseUintB 64 l with
  | .ok v => if decDigits v = l then some v else none
  | _ => none
theorem und_dec {u : Nat} (h : u < 18446744073709551616) : und (decDigits u) = some u := by unfold und; rw [parse_dec h]; exact if_pos rfl
theorem parse_lt : ∀ (l : List UInt8) (acc v : Nat), acc < 18446744073709551616 → parseUintM (2 ^ 64 - 1) acc l = .ok v → v < 18446744073709551616
  | [], acc, v, ha, h => by rw [parseUintM] at h; injection h with h; omega
  | c :: r, acc, v, ha, h => by
    rw [parseUintM] at h
    split at h
    · split at h
      · cases h
      · split at h
        · cases h
        · exact parse_lt r _ v (by omega) h
    · cases h
theorem und_some {l : List UInt8} {v : Nat} (h : und l = some v) : decDigits v = l ∧ v < 18446744073709551616 := by
  unfold und at h
  cases hp : parseUintB 64 l with
  | ok w =>
    rw [hp] at h
    simp only at h
    split at h
    · rename_i e
      injection h with h
      subst h
      refine ⟨e, ?_⟩
      unfold parseUintB at hp
      split at hp
      · cases hp
      · exact parse_lt _ _ _ (by decide) hp
    · cases h
  | _ => rw [hp] at h; cases h
theorem und_iff {l : List UInt8} {v : Nat} : und l = some v ↔ decDigits v = l ∧ v < 18446744073709551616 :=
  ⟨und_some, fun ⟨h1, h2⟩ => by rw [← h1]; exact und_dec h2⟩
theorem und_isD {l : List UInt8} {v : Nat} (h : und l = some v) : ∀ c ∈ l, isD c := by
  rw [← (und_some h).1]; exact dec_isD v
/-! ### of either sign -/
theorem itoa_nat (u : Nat) : itoa (u : Int) = decDigits u := by
  unfold itoa
  rw [if_neg (by omega), Int.toNat_natCast]
theorem itoa_neg {u : Nat} (h : 0 < u) : itoa (-(u : Int)) = 45 :: decDigits u := by
  unfold itoa
  rw [if_pos (by omega), Int.natAbs_neg, Int.natAbs_natCast]
/-- The number of either sign whose text these are. -/
def uns (l : List UInt8) : Option Int := match l with
  | [] => none
  | c :: r => if c = 45 then (match und r with
      | some v => if v = 0 ∨ 9223372036854775808 < v then none else some (-(v : Int))
      | none => none)
    else match und l with
      | some v => if 9223372036854775807 < v then none else some (v : Int)
      | none => none
theorem dec_head {u : Nat} {c : UInt8} {r : List UInt8} (h : decDigits u = c :: r) : c ≠ 45 := by
  have := dec_isD u c (by rw [h]; exact List.mem_cons_self ..)
  intro e
  rw [e] at this
  exact absurd this.1 (by decide)
theorem uns_itoa {n : Int} (h0 : -9223372036854775808 ≤ n) (h1 : n ≤ 9223372036854775807) : uns (itoa n) = some n := by
  by_cases h : n < 0
  · obtain ⟨u, rfl⟩ : ∃ u : Nat, n = -(u : Int) := ⟨n.natAbs, by omega⟩
    rw [itoa_neg (by omega)]
    unfold uns
    simp only [if_true]
    rw [und_dec (by omega)]
    simp only
    rw [if_neg (by omega)]
  · obtain ⟨u, rfl⟩ : ∃ u : Nat, n = (u : Int) := ⟨n.toNat, by omega⟩
    rw [itoa_nat]
    obtain ⟨c, r, hcr⟩ : ∃ c r, decDigits u = c :: r := by
      cases hd : decDigits u with
      | nil => exact absurd hd (dec_ne u)
      | cons c r => exact ⟨c, r, rfl⟩
    have hu := und_dec (u := u) (by omega)
    rw [hcr] at hu ⊢
    unfold uns
    simp only
    rw [if_neg (dec_head hcr), hu]
    simp only
    rw [if_neg (by omega)]
theorem uns_some {l : List UInt8} {n : Int} (h : uns l = some n) : itoa n = l ∧ -9223372036854775808 ≤ n ∧ n ≤ 9223372036854775807 := by
  unfold uns at h
  split at h
  · cases h
  · rename_i c r
    split at h
    · rename_i hc
      split at h
      · rename_i v hv
        split at h
        · cases h
        · rename_i hb
          injection h with h
          subst h
          rw [itoa_neg (by omega), (und_some hv).1, hc]
          exact ⟨rfl, by omega, by omega⟩
      · cases h
    · rename_i hc
      split at h
      · rename_i v hv
        split at h
        · cases h
        · rename_i hb
          injection h with h
          subst h
          rw [itoa_nat, (und_some hv).1]
          exact ⟨rfl, by omega, by omega⟩
      · cases h
theorem uns_iff {l : List UInt8} {n : Int} : uns l = some n ↔ itoa n = l ∧ -9223372036854775808 ≤ n ∧ n ≤ 9223372036854775807 :=
  ⟨uns_some, fun ⟨h1, h2, h3⟩ => by rw [← h1]; exact uns_itoa h2 h3⟩
/-- What ParseInt gives of a number's text. -/
theorem parseInt_itoa {n : Int} (h0 : -9223372036854775808 ≤ n) (h1 : n ≤ 9223372036854775807) : parseIntB 64 (itoa n) = .ok n := by
  by_cases h : n < 0
  · obtain ⟨u, rfl⟩ : ∃ u : Nat, n = -(u : Int) := ⟨n.natAbs, by omega⟩
    rw [itoa_neg (by omega)]
    unfold parseIntB
    simp only [show ((45 : UInt8).toNat = 43 ∨ (45 : UInt8).toNat = 45) from .inr rfl, if_true, parse_dec (u := u) (by omega)]
    simp
    omega
  · obtain ⟨u, rfl⟩ : ∃ u : Nat, n = (u : Int) := ⟨n.toNat, by omega⟩
    rw [itoa_nat]
    obtain ⟨c, r, hcr⟩ : ∃ c r, decDigits u = c :: r := by
      cases hd : decDigits u with
      | nil => exact absurd hd (dec_ne u)
      | cons c r => exact ⟨c, r, rfl⟩
    have hu := parse_dec (u := u) (by omega)
    have hd := dec_isD u c (by rw [hcr]; exact List.mem_cons_self ..)
    unfold isD at hd
    rw [hcr] at hu ⊢
    unfold parseIntB
    simp only [show ¬ (c.toNat = 43 ∨ c.toNat = 45) from by omega, if_false, hu]
    simp [show ¬ c.toNat = 45 from by omega]
    omega
/-- ParseInt, and then the text held against what was read. -/
theorem parseInt_uns (l : List UInt8) : (match parseIntB 64 l with
    | .ok v => if itoa v = l then some v else none
    | _ => none) = uns l := by
  cases hu : uns l with
  | some n =>
    obtain ⟨h1, h2, h3⟩ := uns_some hu
    rw [← h1, parseInt_itoa h2 h3]
    exact if_pos rfl
  | none =>
    cases hp : parseIntB 64 l with
    | ok v =>
      simp only
      by_cases e : itoa v = l
      · exfalso
        have e2 : (2 : Nat) ^ (64 - 1) = 9223372036854775808 := rfl
        have hb : -9223372036854775808 ≤ v ∧ v ≤ 9223372036854775807 := by
          unfold parseIntB at hp
          rw [e2] at hp
          split at hp
          · cases hp
          · simp only at hp
            split at hp
            · cases hp
            · cases hp
            · rename_i u hu'
              split at hp
              · cases hp
              · split at hp
                · cases hp
                · injection hp with hp
                  rw [← hp]
                  split <;> omega
        have := uns_iff.2 ⟨e, hb.1, hb.2⟩
        rw [hu] at this; cases this
      · rw [if_neg e]
    | _ => rfl
/-! ### to the base 16 -/
def hd (d : Nat) : UInt8 := if d < 10 then UInt8.ofNat (48 + d) else UInt8.ofNat (87 + d)
/-- k digits to the base 16. -/
def hexK : Nat → Nat → List UInt8
  | 0, _ => []
  | k + 1, n => hexK k (n / 16) ++ [hd (n % 16)]
/-- The number to the base 16, without noughts ahead. -/
def hexD (n : Nat) : List UInt8 := if h : n < 16 then [hd n] else hexD (n / 16) ++ [hd (n % 16)]
termination_by n
decreasing_by omega
theorem hexD_one {n : Nat} (h : n < 16) : hexD n = [hd n] := by rw [hexD, dif_pos h]
theorem hexD_step {n : Nat} (h : ¬ n < 16) : hexD n = hexD (n / 16) ++ [hd (n % 16)] := by rw [hexD, dif_neg h]
theorem hexK_len : ∀ k n, (hexK k n).length = k
  | 0, _ => rfl
  | k + 1, n => by rw [hexK, List.length_append, hexK_len k]; rfl
theorem hexK_zero : ∀ k, hexK k 0 = List.replicate k 48
  | 0 => rfl
  | k + 1 => by rw [hexK, Nat.zero_div, hexK_zero k, List.replicate_succ', Nat.zero_mod]; rfl
theorem hexK_pad : ∀ (k n : Nat), n < 16 ^ (k + 1) → (hexD n).length ≤ k + 1 ∧ hexK (k + 1) n = List.replicate (k + 1 - (hexD n).length) 48 ++ hexD n
  | 0, n, h => by
    rw [hexD_one (by omega)]
    exact ⟨Nat.le_refl _, by rw [hexK, hexK, Nat.mod_eq_of_lt (by omega)]; rfl⟩
  | k + 1, n, h => by
    by_cases h16 : n < 16
    · rw [hexD_one h16]
      refine ⟨by simp, ?_⟩
      rw [hexK, Nat.div_eq_of_lt h16, hexK_zero, Nat.mod_eq_of_lt h16]; rfl
    · obtain ⟨h1, h2⟩ := hexK_pad k (n / 16) (by rw [Nat.pow_succ] at h; omega)
      rw [hexD_step h16, List.length_append, List.length_singleton]
      refine ⟨by omega, ?_⟩
      rw [hexK, h2, List.append_assoc, show k + 1 + 1 - ((hexD (n / 16)).length + 1) = k + 1 - (hexD (n / 16)).length by omega]
/-- A digit's value, to the base 16; 16 and more: it is none, or a letter beyond. -/
def hv (c : UInt8) : Option Nat := if 48 ≤ c.toNat ∧ c.toNat ≤ 57 then some (c.toNat - 48) else if 97 ≤ (c ||| 32).toNat ∧ (c ||| 32).toNat ≤ 122 then some ((c ||| 32).toNat - 97 + 10) else none
/-- ParseUint at base 16, behind a number. -/
def parseX (acc : Nat) : List UInt8 → NumEnd Nat
  | [] => .ok acc
  | c :: r => match hv c with
    | none => .syntax
    | some d => if 16 ≤ d then .syntax else if 1152921504606846976 ≤ acc then .range else parseX (acc * 16 + d) r
def parseX0 (l : List UInt8) : NumEnd Nat := if l = [] then .syntax else parseX 0 l
theorem hv_hd : ∀ d : Fin 16, hv (hd d.val) = some d.val := by decide +kernel
theorem hv_hd' {d : Nat} (h : d < 16) : hv (hd d) = some d := hv_hd ⟨d, h⟩
def xval (acc : Nat) (l : List UInt8) : Nat := l.foldl (fun a c => a * 16 + (hv c).getD 0) acc
theorem xval_nil (a : Nat) : xval a [] = a := rfl
theorem xval_cons (a : Nat) (c : UInt8) (r : List UInt8) : xval a (c :: r) = xval (a * 16 + (hv c).getD 0) r := by unfold xval; rw [List.foldl_cons]
attribute [local irreducible] xval
theorem xval_app (l m : List UInt8) : ∀ a, xval a (l ++ m) = xval (xval a l) m := by
  induction l with
  | nil => intro a; rw [List.nil_append, xval_nil]
  | cons c r ih => intro a; rw [List.cons_append, xval_cons, xval_cons, ih]
theorem xval_ge : ∀ (l : List UInt8) (a : Nat), a ≤ xval a l
  | [], a => by rw [xval_nil]; exact Nat.le_refl _
  | c :: r, a => by
    have := xval_ge r (a * 16 + (hv c).getD 0)
    rw [xval_cons]; omega
theorem xval_hexK : ∀ (k n : Nat), n < 16 ^ k → xval 0 (hexK k n) = n
  | 0, n, h => by simp at h; rw [h, hexK, xval_nil]
  | k + 1, n, h => by
    rw [hexK, xval_app, xval_hexK k _ (by rw [Nat.pow_succ] at h; omega), xval_cons, xval_nil, hv_hd' (by omega)]
    simp only [Option.getD_some]; omega
theorem hexK_hv : ∀ (k n : Nat), ∀ c ∈ hexK k n, ∃ d, d < 16 ∧ c = hd d
  | 0, n, c, hc => by cases hc
  | k + 1, n, c, hc => by
    rw [hexK] at hc
    rcases List.mem_append.1 hc with hc | hc
    · exact hexK_hv k _ c hc
    · exact ⟨n % 16, by omega, List.mem_singleton.1 hc⟩
theorem parseX_ok : ∀ (l : List UInt8) (acc : Nat), (∀ c ∈ l, ∃ d, d < 16 ∧ c = hd d) → xval acc l < 18446744073709551616 → parseX acc l = .ok (xval acc l)
  | [], acc, _, _ => by rw [xval_nil]; rfl
  | c :: r, acc, hc, hl => by
    obtain ⟨d, h1, rfl⟩ := hc c (List.mem_cons_self ..)
    rw [xval_cons, hv_hd' h1, Option.getD_some] at hl ⊢
    have := xval_ge r (acc * 16 + d)
    rw [parseX, hv_hd' h1]
    simp only
    rw [if_neg (by omega), if_neg (by omega)]
    exact parseX_ok r _ (fun x hx => hc x (List.mem_cons_of_mem _ hx)) hl
theorem parseX_hexK {n : Nat} (h : n < 18446744073709551616) : parseX0 (hexK 16 n) = .ok n := by
  have hn : hexK 16 n ≠ [] := fun e => by have := hexK_len 16 n; rw [e] at this; cases this
  have hx := xval_hexK 16 n (by omega)
  unfold parseX0
  rw [if_neg hn, parseX_ok _ 0 (hexK_hv 16 n) (by rw [hx]; exact h), hx]
theorem parseX_lt : ∀ (l : List UInt8) (acc v : Nat), acc < 18446744073709551616 → parseX acc l = .ok v → v < 18446744073709551616
  | [], acc, v, ha, h => by rw [parseX] at h; injection h with h; omega
  | c :: r, acc, v, ha, h => by
    rw [parseX] at h
    split at h
    · cases h
    · split at h
      · cases h
      · split at h
        · cases h
        · exact parseX_lt r _ v (by omega) h
/-- The number whose 16 digits these are. -/
def unx (l : List UInt8) : Option Nat := match parseX0 l with
  | .ok v => if hexK 16 v = l then some v else none
  | _ => none
theorem unx_hexK {n : Nat} (h : n < 18446744073709551616) : unx (hexK 16 n) = some n := by unfold unx; rw [parseX_hexK h]; exact if_pos rfl
theorem unx_some {l : List UInt8} {v : Nat} (h : unx l = some v) : hexK 16 v = l ∧ v < 18446744073709551616 := by
  unfold unx at h
  cases hp : parseX0 l with
  | ok w =>
    rw [hp] at h
    simp only at h
    split at h
    · rename_i e
      injection h with h
      subst h
      refine ⟨e, ?_⟩
      unfold parseX0 at hp
      split at hp
      · cases hp
      · exact parseX_lt _ _ _ (by decide) hp
    · cases h
  | _ => rw [hp] at h; cases h
theorem unx_iff {l : List UInt8} {v : Nat} : unx l = some v ↔ hexK 16 v = l ∧ v < 18446744073709551616 :=
  ⟨unx_some, fun ⟨h1, h2⟩ => by rw [← h1]; exact unx_hexK h2⟩
end Go.Proofs.YtciolchdihlgfaaGreatDoor.Num
