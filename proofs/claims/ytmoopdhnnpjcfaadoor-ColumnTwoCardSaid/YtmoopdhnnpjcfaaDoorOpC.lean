import Derived.Test.YtmoopdhnnpjcfaaDoorPCox
import Derived.Test.YtmoopdhnnpjcfaaDoorRowW
import Derived.Test.YtmoopdhnnpjcfaaDoorWireSpec2
/-! Cells, as an argument. -/
namespace Go.Proofs.YtmoopdhnnpjcfaaDoor.Co
open Go.RowKit Go.Proofs.YtmoopdhnnpjcfaaDoorW.PrintWords Go.Proofs.YtmoopdhnnpjcfaaDoor.PCo Go.Proofs.YtmoopdhnnpjcfaaDoor.RowW
set_option linter.unusedVariables false
structure WfC (l : List S47) : Prop where
  len : l.length ≤ 5864062014635
  num : ∀ x ∈ l, 0 ≤ x.f0 ∧ x.f0 < 18446744073709551616
  text : ∀ x ∈ l, x.f1.size ≤ 140737488351232
theorem opensC (W : World) : Opens Tryd.prog W (Kd.slice 47 k47) 22 WfC := by
  refine opens_mono (opens_slice Tryd.underlying22 (by kernel_rfl) (opens_iso (opens_struct Tryd.underlying47 (by kernel_rfl)
    (opensF_cons (opens_int Tryd.underlying45) rfl (by kernel_rfl) (opensF_one (opens_string Tryd.underlying9) rfl (by kernel_rfl)))) _ (fun q => (⟨q.1, q.2⟩ : S47)) (fun _ => rfl))) ?_
  rintro xs ⟨-, h1, h2⟩
  rw [show Tryd.prog.bytesOf 47 = 24 from by kernel_rfl] at h1
  refine ⟨by unfold reachBytes at h1; omega, fun x hx => ?_, fun x hx => (h2 x hx).2⟩
  have := Go.Proofs.YtmoopdhnnpjcfaaDoor.Wire.wf_u64 (h2 x hx).1
  exact ⟨this.1, by have := this.2; omega⟩
end Go.Proofs.YtmoopdhnnpjcfaaDoor.Co
