import Derived.Test.YtciolchdihlgfaaGreatDoorTxH
import Derived.Test.YtciolchdihlgfaaGreatDoorTxD
/-! Cell: Read, the plain law. -/
namespace Go.Proofs.YtciolchdihlgfaaGreatDoor.Tx
open Go.RowKit Go.Proofs.YtciolchdihlgfaaGreatDoorW.PrintWords Go.Proofs.YtciolchdihlgfaaGreatDoorW.PrintLast Go.Proofs.YtciolchdihlgfaaGreatDoorW.PrintMore Go.Proofs.YtciolchdihlgfaaGreatDoor.Wire Go.Proofs.YtciolchdihlgfaaGreatDoor.PCo Go.Proofs.YtciolchdihlgfaaGreatDoor.Co Go.Proofs.YtciolchdihlgfaaGreatDoor.Ce Go.Proofs.YtciolchdihlgfaaGreatDoor.Num
set_option linter.unusedVariables false
set_option linter.unusedSimpArgs false
set_option maxRecDepth 100000
theorem uint_lt {l : List UInt8} {v : Nat} (h : Lib.parseUintB 64 l = .ok v) : v < 18446744073709551616 := by
  unfold Lib.parseUintB at h
  split at h
  · cases h
  · exact parse_lt _ 0 v (by omega) h
theorem x_lt {l : List UInt8} {v : Nat} (h : parseX0 l = .ok v) : v < 18446744073709551616 := by
  unfold parseX0 at h
  split at h
  · cases h
  · exact parseX_lt _ 0 v (by omega) h
theorem told_len {l t : List UInt8} (h : told l = some t) : 2 * t.length ≤ l.length := by
  unfold told at h
  split at h
  · injection h with h; rw [← h]; simp
  · split at h
    · cases h
    · rw [unh_len _ _ _ (Nat.le_refl _) h]; omega
theorem rdv_rng {k : Int} {l : List UInt8} {n : Int} {t : ByteArray} (h : rdv k l = some (n, t)) : (0 ≤ n ∧ n < 18446744073709551616) ∧ 2 * t.size ≤ l.length := by
  unfold rdv at h
  split at h
  · split at h
    · rename_i x hp
      injection h with h; injection h with h1 h2
      rw [← h1, ← h2]
      exact ⟨zu_rng (parseInt_rng hp), by show 2 * 0 ≤ _; omega⟩
    · cases h
  split at h
  · split at h
    · rename_i x hp
      injection h with h; injection h with h1 h2
      rw [← h1, ← h2]
      have := uint_lt hp
      exact ⟨⟨by omega, by omega⟩, by show 2 * 0 ≤ _; omega⟩
    · cases h
  split at h
  · injection h with h; injection h with h1 h2
    rw [← h1, ← h2]
    exact ⟨by split <;> omega, by show 2 * 0 ≤ _; omega⟩
  split at h
  · split at h
    · rename_i x hp
      injection h with h; injection h with h1 h2
      rw [← h1, ← h2]
      have := x_lt hp
      exact ⟨⟨by omega, by omega⟩, by show 2 * 0 ≤ _; omega⟩
    · cases h
  · cases ht : told l with
    | none => rw [ht] at h; cases h
    | some u =>
      rw [ht] at h
      injection h with h; injection h with h1 h2
      rw [← h1, ← h2]
      have := told_len ht
      have e : (⟨u.toArray⟩ : ByteArray).size = u.length := by show u.toArray.size = _; exact List.size_toArray ..
      exact ⟨⟨by omega, by omega⟩, by rw [e]; exact this⟩
theorem num_rdv {k : Int} {l : List UInt8} (hk : 0 ≤ k ∧ k < 6) (h3 : ¬ (k = 3 ∨ k = 4)) : num k l = (rdv k l).bind fun x => if tx k x.1 x.2 = l then some x.1 else none := by
  have hk' : k = 0 ∨ k = 1 ∨ k = 2 ∨ k = 5 := by omega
  rcases hk' with rfl | rfl | rfl | rfl
  · unfold num rdv
    rw [if_pos rfl, if_pos rfl, ← parseInt_uns]
    cases hp : Lib.parseIntB 64 l with
    | ok v =>
      simp only [Option.bind_some]
      have e : tx 0 (zu v) E0 = Lib.itoa v := by unfold tx; rw [if_pos rfl, zs_zu (parseInt_rng hp)]
      rw [e]
      split <;> rfl
    | _ => rfl
  · unfold num rdv
    rw [if_neg (by decide), if_pos rfl, if_neg (by decide), if_pos rfl]
    unfold und
    cases hp : Lib.parseUintB 64 l with
    | ok v =>
      simp only [Option.bind_some]
      have e : tx 1 (v : Int) E0 = Lib.decDigits v := by unfold tx; rw [if_neg (by decide), if_pos rfl, Int.toNat_natCast]
      rw [e]
      split <;> rfl
    | _ => rfl
  · have e1 : num 2 l = if l = TRUE then some 1 else if l = FALSE then some 0 else none := rfl
    have e2 : rdv 2 l = some (if l = TRUE then 1 else 0, E0) := rfl
    have e3 : ∀ n, tx 2 n E0 = if n = 1 then TRUE else FALSE := fun n => rfl
    rw [e1, e2]
    simp only [Option.bind_some]
    rw [e3]
    by_cases h1 : l = TRUE
    · rw [if_pos h1, if_pos h1, if_pos rfl, if_pos h1.symm]
    · rw [if_neg h1, if_neg h1, if_neg (show ¬ (0 : Int) = 1 by decide)]
      by_cases h2 : l = FALSE
      · rw [if_pos h2, if_pos h2.symm]
      · rw [if_neg h2, if_neg (fun e => h2 e.symm)]
  · unfold num rdv
    rw [if_neg (by decide), if_neg (by decide), if_neg (by decide), if_neg (by decide), if_neg (by decide), if_neg (by decide), if_pos rfl]
    unfold unx
    cases hp : parseX0 l with
    | ok v =>
      simp only [Option.bind_some]
      have e : tx 5 (v : Int) E0 = hexK 16 v := by unfold tx; rw [if_neg (by decide), if_neg (by decide), if_neg (by decide), if_pos rfl, Int.toNat_natCast]
      rw [e]
      split <;> rfl
    | _ => rfl
theorem rdv_text {k : Int} {l : List UInt8} (h3 : k = 3 ∨ k = 4) : rdv k l = (told l).map fun t => (0, ⟨t.toArray⟩) := by unfold rdv; rw [if_neg (by omega), if_neg (by omega), if_neg (by omega), if_neg (by omega)]
theorem crd_no_ {k : Int} {l : List UInt8} (hk : 0 ≤ k ∧ k < 6) (h : ∀ n t, rdv k l = some (n, t) → tx k n t ≠ l) : crd k l = (0, E0, 6) := by
  unfold crd
  rw [if_neg (by omega)]
  by_cases h3 : k = 3 ∨ k = 4
  · rw [if_pos h3]
    cases ht : told l with
    | none => rfl
    | some t =>
      have hr : rdv k l = some (0, ⟨t.toArray⟩) := by rw [rdv_text h3, ht]; rfl
      exfalso
      refine h _ _ hr ?_
      rw [tx_text _ h3]
      exact hexv_told ht
  · rw [if_neg h3, num_rdv hk h3]
    cases hr : rdv k l with
    | none => rfl
    | some x =>
      simp only [Option.bind_some]
      rw [if_neg (h x.1 x.2 hr)]
theorem crd_yes {k : Int} {l : List UInt8} {n : Int} {t : ByteArray} (hk : 0 ≤ k ∧ k < 6) (h : rdv k l = some (n, t)) (hx : tx k n t = l) : crd k l = if 256 < t.size then (0, E0, 7) else if chk k n t ≠ 0 then (0, E0, chk k n t) else (n, t, 0) := by
  by_cases h3 : k = 3 ∨ k = 4
  · rw [rdv_text h3] at h
    cases ht : told l with
    | none => rw [ht] at h; cases h
    | some u =>
      rw [ht] at h
      injection h with h; injection h with h1 h2
      subst h1
      have e : u = t.data.toList := by rw [← h2]
      have e2 : u.length = t.size := by rw [e, data_length]
      have hch : chk k 0 t = if k = 4 ∧ Lib.validD t.data.toList = false then 11 else if 256 < t.size then 7 else 0 := by
        unfold chk
        rw [if_neg (show ¬ (k < 0 ∨ 5 < k) by omega), if_pos h3, if_neg (show ¬ (0 : Int) ≠ 0 by simp)]
      have hcr : crd k l = if 256 < t.size then (0, E0, 7) else if k = 4 ∧ Lib.validD t.data.toList = false then (0, E0, 11) else (0, t, 0) := by
        unfold crd
        rw [if_neg (show ¬ ¬ (0 ≤ k ∧ k < 6) by omega), if_pos h3, ht]
        simp only
        rw [h2, e2, e]
      rw [hcr, hch]
      by_cases h4 : 256 < t.size
      · rw [if_pos h4, if_pos h4]
      · rw [if_neg h4, if_neg h4]
        by_cases h5 : k = 4 ∧ Lib.validD t.data.toList = false
        · rw [if_pos h5, if_pos h5, if_pos (by decide)]
        · rw [if_neg h5, if_neg h5, if_neg h4, if_neg (by simp)]
  · have hn : num k l = some n := by rw [num_rdv hk h3, h]; simp only [Option.bind_some]; rw [if_pos hx]
    have hc : crd k l = (n, E0, 0) := by unfold crd; rw [if_neg (by omega), if_neg h3, hn]
    have ht : t = E0 := by
      unfold rdv at h
      split at h
      · split at h
        · injection h with h; injection h with _ h; exact h.symm
        · cases h
      split at h
      · split at h
        · injection h with h; injection h with _ h; exact h.symm
        · cases h
      split at h
      · injection h with h; injection h with _ h; exact h.symm
      split at h
      · split at h
        · injection h with h; injection h with _ h; exact h.symm
        · cases h
      · omega
    subst ht
    have h0 := (tx_crd hc).2.1
    rw [h0, if_neg (by decide), if_neg (by simp), hc]
end Go.Proofs.YtciolchdihlgfaaGreatDoor.Tx
