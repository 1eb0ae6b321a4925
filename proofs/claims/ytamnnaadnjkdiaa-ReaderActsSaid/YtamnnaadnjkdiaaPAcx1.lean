-- WRITTEN by a program of this session's own (wip/gen/mkprint.py), over the kit's print: not printed by print.sh itself
import Derived.Test.YtamnnaadnjkdiaaPAcx0
namespace Go.Proofs.Ytamnnaadnjkdiaa.PAc
open Go.RowKit Go.Proofs.YtamnnaadnjkdiaaW.PrintWords Go.Proofs.YtamnnaadnjkdiaaW.PrintLast Go.Proofs.YtamnnaadnjkdiaaW.PrintMore
attribute [local go_sem] max2_int min2_int max_two min_two max_three min_three max_four min_four   -- for this text's walks alone
set_option linter.unusedVariables false
set_option linter.unusedSimpArgs false

/-! ### decklelaw03_ReaderActs: function 5 -/
def decklelaw03_ReaderActs.fit (x : S41) : Go.Proofs.Ytamnnaadnjkdiaa.Rd.Act := ⟨x.f0, x.f1, x.f2, x.f3, x.f4⟩
def decklelaw03_ReaderActs.Fine (l0 : List Int) (l1 : List (S41)) : Prop := (∀ c ∈ l0, 0 ≤ c ∧ c < 256) ∧ l0.length ≤ 140737488351232 ∧ l1.length ≤ 9223372036854775807 ∧ ∀ x ∈ l1, x.f1 ≤ 9223372036854775807 ∧ (0 ≤ x.f2 ∧ x.f2 ≤ 18446744073709551615) ∧ 0 ≤ x.f4 ∧ x.f4 < 256
open Classical in
noncomputable def decklelaw03_ReaderActs.f (l0 : List Int) (l1 : List (S41)) : Option Bool := if decklelaw03_ReaderActs.Fine l0 l1 then some true else none
theorem decklelaw03_ReaderActs.calls (A0 : Option Addr) (c0 : Nat) (l0 : List Int) (A1 : Option Addr) (c1 : Nat) (l1 : List (S41)) (r : Bool) (w : World) (hr0 : Kd.C (Kd.int .u8) w A0 l0.length l0) (hc0 : l0.length ≤ c0) (hr1 : Kd.C k41 w A1 l1.length l1) (hc1 : l1.length ≤ c1) (h : decklelaw03_ReaderActs.f l0 l1 = some r) :
    Calls Try.prog 5 #[.slice A0 l0.length c0, .slice A1 l1.length c1] w fun e w' => e = .returned (.bool r) ∧ Below w.heap.size w w' := by
  unfold decklelaw03_ReaderActs.f at h
  split at h
  case isFalse => cases h
  rename_i hc
  obtain ⟨hb, h0, h1, h2⟩ := hc
  obtain rfl := Option.some.inj h
  refine Go.Proofs.Ytamnnaadnjkdiaa.Rd.readerActs_calls A0 A1 c0 c1 l1.length l0 (fun i => decklelaw03_ReaderActs.fit (rd_T41 l1 (i : Int))) w hr0 hc0 hb h0 h1 (fun i hi => ?_) (fun i hi => ?_)
  · have hx := h2 (rd_T41 l1 (i : Int)) (by
      unfold rd_T41
      rw [Int.toNat_natCast, List.getD_eq_getElem?_getD, List.getElem?_eq_getElem hi]
      exact List.getElem_mem hi)
    exact ⟨hx.1, hx.2.1, hx.2.2⟩
  · have := at_T41 hr1 (i : Int) (by omega) (by omega)
    simp only [Int.toNat_natCast] at this
    exact this

end Go.Proofs.Ytamnnaadnjkdiaa.PAc
