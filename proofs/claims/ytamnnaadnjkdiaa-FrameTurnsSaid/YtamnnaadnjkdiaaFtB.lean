import Derived.Test.YtamnnaadnjkdiaaFtA
import Derived.Maps.Own
import Derived.Maps.Views
import Derived.WalkKit
import Derived.Test.YtamnnaadnjkdiaaProg
/-! A set of places that the call makes: map[int]bool, asked without 'ok'. -/
namespace Go.Proofs.Ytamnnaadnjkdiaa.Ft
open Go.RowKit Go.Proofs.YtamnnaadnjkdiaaW.PrintWords Go.Proofs.YtamnnaadnjkdiaaW.PrintLast Go.Proofs.YtamnnaadnjkdiaaW.PrintMore Go.Proofs.Ytamnnaadnjkdiaa.Wire Go.Proofs.Ytamnnaadnjkdiaa.Crc Go.Proofs.Ytamnnaadnjkdiaa.Frame Go.Maps Go.WideMaps
set_option linter.unusedVariables false
set_option linter.unusedSimpArgs false
theorem plainElem_bool_inv {H : Type} {P : Program} {e : TypeId} (he : P.underlying e = some .bool) {v : Value} {z : DataW H × List MemPlace} (h : plainElem P e v = some z) : ∃ a, v = .bool a ∧ z = (.lit (.bool a), []) := by
  unfold plainElem at h
  rw [he] at h
  cases v <;> simp at h
  exact ⟨_, rfl, h.symm⟩
theorem lawI : Keyed Try.prog 3 := int_keyed Try.underlying3
theorem zeroB (w : World) : (zeroValue 4).run Try.prog w = .ok (.bool false) w := by kernel_rfl
/-- The map at block b holds just these places, each as true. -/
def Held (w : World) (b : Nat) (ks : List Nat) : Prop :=
  ∃ (n : Nat) (D : DataW Unit), w.ownsMap Try.prog 3 (plainElem Try.prog 4) b n D ∧ Go.Maps.IsMap D ∧ n ≤ ks.length ∧ ∀ k : Nat, D.atKey (.int .i64 (k : Int)) (.lit (.bool false)) = .lit (.bool (decide (k ∈ ks)))
theorem held_new (w : World) : Held (w.alloc (.map #[] 0)) w.heap.size [] :=
  ⟨0, .map [], World.ownsMap_made _ _ _ _, Go.Maps.isMap_empty, Nat.le_refl _, fun k => by simp [DataW.atKey]⟩
theorem wf64 {k : Nat} (h : k < 1000000) : (Lit.int .i64 (k : Int)).wf = true := by
  simp only [Lit.wf, IntKind.min, IntKind.max, IntKind.signed, IntKind.bits, Bool.and_eq_true, decide_eq_true_eq]
  simp
  omega
theorem held_look {w : World} {b : Nat} {ks : List Nat} (h : Held w b ks) {k : Nat} (hk : k < 1000000) :
    (Instr.lookup 55 (.map (some b)) (.int .i64 (k : Int)) false).run Try.prog w = .ok (.bool (decide (k ∈ ks))) w := by
  obtain ⟨n, D, ho, hm, hn, hat⟩ := h
  obtain ⟨v, ps, hrun, hv⟩ := ho.lookup lawI Try.underlying55 (zeroB w) (plainElem_bool (H := Unit) Try.underlying4 false) (keyOf_int_mk Try.underlying3 (wf64 hk))
  obtain ⟨a, rfl, hz⟩ := plainElem_bool_inv Try.underlying4 hv
  rw [hat k] at hz
  simp only [Prod.mk.injEq, DataW.lit.injEq, Lit.bool.injEq] at hz
  rw [hrun, hz.1]
theorem held_put {w : World} {b : Nat} {ks : List Nat} (h : Held w b ks) (hl : ks.length < 100) {k : Nat} (hk : k < 1000000) :
    ∃ w', (Instr.mapUpdate 55 (.map (some b)) (.int .i64 (k : Int)) (.bool true)).run Try.prog w = .ok () w' ∧ Held w' b (k :: ks) ∧ w.grownBy w' (some b) := by
  obtain ⟨n, D, ho, hm, hn, hat⟩ := h
  obtain ⟨w', hrun, ho', hg⟩ := ho.update lawI Try.underlying55 (by unfold maxLen; omega) (keyOf_int_mk Try.underlying3 (wf64 hk)) (plainElem_bool (H := Unit) Try.underlying4 true)
  refine ⟨w', hrun, ⟨n + 1, _, ho', hm.put _ _, by rw [List.length_cons]; omega, fun j => ?_⟩, hg⟩
  by_cases e : j = k
  · subst e
    rw [Go.Maps.atKey_put_same hm (by trivial)]
    simp
  · rw [Go.Maps.atKey_put_other (by intro h; injection h with h1 h2; exact e (by omega)), hat j]
    simp [e]
/-- The places turned so far, the last one first. -/
def trn (b : List Int) : List Nat → List Int
  | [] => b
  | i :: is => if i ∈ is then trn b is else Crc.flip (trn b is) i
theorem trn_len (b : List Int) : ∀ is, (trn b is).length = b.length := by
  intro is
  induction is with
  | nil => rfl
  | cons i is ih =>
    unfold trn
    split
    · exact ih
    · rw [flip_len, ih]
theorem trn_bytes {b : List Int} (h : Bytes b) : ∀ is, Bytes (trn b is) := by
  intro is
  induction is with
  | nil => exact h
  | cons i is ih =>
    unfold trn
    split
    · exact ih
    · exact flip_bytes ih _
theorem trn3 (b : List Int) (i0 i1 i2 : Nat) : trn b [i2, i1, i0] = turn3 b i0 i1 i2 := by
  unfold turn3
  simp [trn, or_comm]
theorem Held.kept {w w' : World} {b : Nat} {ks : List Nat} {row : Option Nat} (h : Held w b ks) (hg : w.grownBy w' row) (hne : some b ≠ row) : Held w' b ks := by
  obtain ⟨n, D, ho, r⟩ := h
  exact ⟨n, D, ho.kept hg hne, r⟩
theorem Held.drew {w : World} {b : Nat} {ks : List Nat} (h : Held w b ks) : Held w.drew b ks := h
end Go.Proofs.Ytamnnaadnjkdiaa.Ft
