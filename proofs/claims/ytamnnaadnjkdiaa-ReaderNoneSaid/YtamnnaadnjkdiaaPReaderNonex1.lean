-- WRITTEN by a program of this session's own (wip/gen/mkprint.py), over the kit's print: not printed by print.sh itself
import Derived.Test.YtamnnaadnjkdiaaPReaderNonex0
namespace Go.Proofs.Ytamnnaadnjkdiaa.PReaderNone
open Go.RowKit Go.Proofs.YtamnnaadnjkdiaaW.PrintWords Go.Proofs.YtamnnaadnjkdiaaW.PrintLast Go.Proofs.YtamnnaadnjkdiaaW.PrintMore
attribute [local go_sem] max2_int min2_int max_two min_two max_three min_three max_four min_four   -- for this text's walks alone
set_option linter.unusedVariables false
set_option linter.unusedSimpArgs false

/-! ### decklelaw03_ReaderNone: function 6 -/
def decklelaw03_ReaderNone.f (l0 : List Int) (a1 : Int) : Option Bool := if l0.length ≤ 9223372036854775807 then some true else none
theorem decklelaw03_ReaderNone.calls (A0 : Option Addr) (c0 : Nat) (l0 : List Int) (a1 : Int) (r : Bool) (w : World) (hr0 : Kd.C (Kd.int .u8) w A0 l0.length l0) (hc0 : l0.length ≤ c0) (h : decklelaw03_ReaderNone.f l0 a1 = some r) :
    Calls Try.prog 6 #[.slice A0 l0.length c0, .int .u64 a1] w fun e w' => e = .returned (.bool r) ∧ Below w.heap.size w w' := by
  unfold decklelaw03_ReaderNone.f at h
  split at h
  case isFalse => cases h
  rename_i hc
  obtain rfl := Option.some.inj h
  exact Go.Proofs.Ytamnnaadnjkdiaa.Rd.readerNone_calls A0 c0 l0 a1 w hc


/-- THE ONE PURE STATEMENT of decklelaw03_ReaderNone: yours. -/
def decklelaw03_ReaderNone.Pure : Prop := ∀ (l0 : List Int) (a1 : Int), l0.length ≤ maxLen → l0.length * 1 ≤ 140737488351232 → (∀ x ∈ l0, (Lit.int .u8 x).wf = true) → (Lit.int .u64 a1).wf = true → decklelaw03_ReaderNone.f l0 a1 = some true
theorem decklelaw03_ReaderNone.walk (P : decklelaw03_ReaderNone.Pure) (a0 : Option Addr) (len0 cap0 : Nat) (z0 : List Int) (a1 : Int) (w : World) (w0 : (a0 = none ∧ len0 = 0 ∧ cap0 = 0 ∧ z0 = []) ∨ ∃ x, a0 = some x ∧ len0 ≤ cap0 ∧ cap0 ≤ maxLen ∧ z0.length = cap0 ∧ (∀ i, i < z0.length → w.cell? (x.add i) = some (.int .u8 (z0.getD i 0))) ∧ ∀ n ∈ z0, (Lit.int .u8 n).wf = true) (y0 : len0 * 1 ≤ 140737488351232) (w1 : (Lit.int .u64 a1).wf = true) :
    Calls Try.prog 6 #[.slice a0 len0 cap0, .int .u64 a1] w fun e w' => e = .returned (.bool true) ∧ Below w.heap.size w w' := by
  obtain ⟨l0, rfl, hr0, hm0, hw0, hc0⟩ := ReadsInt.ofRowC w0
  have h := P l0 a1 hm0 y0 hw0 w1
  refine (decklelaw03_ReaderNone.calls _ _ l0 a1 true w (Kd.C_of_reads (d := (0 : Int)) (h1 := fun _ => rfl) hr0) hc0 h).mono ?_
  rintro e w' ⟨rfl, hd⟩
  exact ⟨rfl, hd⟩

end Go.Proofs.Ytamnnaadnjkdiaa.PReaderNone
