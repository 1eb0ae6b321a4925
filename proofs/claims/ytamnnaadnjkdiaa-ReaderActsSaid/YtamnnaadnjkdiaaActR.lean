import Derived.Test.YtamnnaadnjkdiaaPAcx
import Derived.Test.YtamnnaadnjkdiaaRowB
namespace Go.Proofs.Ytamnnaadnjkdiaa.ActR
open Go.RowKit Go.Proofs.YtamnnaadnjkdiaaW.PrintWords Go.Proofs.Ytamnnaadnjkdiaa.PAc Go.Proofs.Ytamnnaadnjkdiaa.RowB
set_option linter.unusedVariables false
def Wf (x : S41) : Prop := (Lit.int .i64 x.f0).wf = true ∧ (Lit.int .i64 x.f1).wf = true ∧ (Lit.int .u64 x.f2).wf = true ∧ (Lit.int .u8 x.f4).wf = true
theorem opens (W : World) : Opens Try.prog W (Kd.slice 41 k41) 35 (fun xs => xs.length ≤ maxLen ∧ ∀ x ∈ xs, Wf x) (fun xs => xs.length) := by
  refine opens_mono (opens_slice Try.underlying35 (by kernel_rfl) (opens_iso (opens_struct Try.underlying41 (by kernel_rfl)
    (opensF_cons (opens_int Try.underlying3) rfl (by kernel_rfl) (opensF_cons (opens_int Try.underlying3) rfl (by kernel_rfl) (opensF_cons (opens_int Try.underlying39) rfl (by kernel_rfl) (opensF_cons (opens_bool Try.underlying4) rfl (by kernel_rfl) (opensF_one (opens_int Try.underlying5) rfl (by kernel_rfl))))))) _ (fun q => (⟨q.1, q.2.1, q.2.2.1, q.2.2.2.1, q.2.2.2.2⟩ : S41)) (fun _ => rfl))) ?_ ?_
  · rintro xs ⟨h1, h2⟩
    exact ⟨h1, fun x hx => ⟨(h2 x hx).1, (h2 x hx).2.1, (h2 x hx).2.2.1, (h2 x hx).2.2.2.2⟩⟩
  · intro xs
    exact Nat.le_succ_of_le (sum_len fun x _ => by omega)
theorem fine {l0 : List Int} {l1 : List S41} (hb : ∀ c ∈ l0, 0 ≤ c ∧ c < 256) (hl : l0.length ≤ 140737488351232) (h : l1.length ≤ maxLen ∧ ∀ x ∈ l1, Wf x) : decklelaw03_ReaderActs.f l0 l1 = some true := by
  unfold decklelaw03_ReaderActs.f
  rw [if_pos]
  refine ⟨hb, hl, by have := h.1; unfold maxLen at this; omega, fun x hx => ?_⟩
  obtain ⟨h0, h1, h2, h4⟩ := h.2 x hx
  have q1 := Go.Proofs.Ytamnnaadnjkdiaa.Wire.wf_i64 h1
  have q2 := Go.Proofs.Ytamnnaadnjkdiaa.Wire.wf_u64 h2
  have q4 := Go.Proofs.Ytamnnaadnjkdiaa.Wire.wf_u8 h4
  exact ⟨q1.2, ⟨q2.1, by omega⟩, q4⟩
end Go.Proofs.Ytamnnaadnjkdiaa.ActR
