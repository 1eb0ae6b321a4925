import Derived.Test.YtmoopdhnnpjcfaaDoorCoFF
import Derived.Test.YtmoopdhnnpjcfaaDoorRowB
/-! Cells, as an argument of a bulk. -/
namespace Go.Proofs.YtmoopdhnnpjcfaaDoor.Co
open Go.RowKit Go.Proofs.YtmoopdhnnpjcfaaDoorW.PrintWords Go.Proofs.YtmoopdhnnpjcfaaDoor.PCo Go.Proofs.YtmoopdhnnpjcfaaDoor.RowB
set_option linter.unusedVariables false
theorem opensU (W : World) : Opens Tryd.prog W (Kd.slice 47 k47) 22 (fun xs => ∀ x ∈ xs, 0 ≤ x.f0 ∧ x.f0 < 18446744073709551616) (fun xs => (xs.map fun x => x.f1.size + 1).sum) := by
  refine opens_mono (opens_slice (bulk := fun x : S47 => x.f1.size + 1) Tryd.underlying22 (by kernel_rfl) (opens_mono (opens_iso (opens_struct Tryd.underlying47 (by kernel_rfl)
    (opensF_cons (opens_int Tryd.underlying45) rfl (by kernel_rfl) (opensF_one (opens_string Tryd.underlying9) rfl (by kernel_rfl)))) _ (fun q => (⟨q.1, q.2⟩ : S47)) (fun _ => rfl)) (fun _ h => h) (fun x => by show x.f1.size + 1 ≤ 1 + (x.f1.size + 1) + 1; omega))) ?_ ?_
  · rintro xs ⟨h1, h2⟩ x hx
    have := Go.Proofs.YtmoopdhnnpjcfaaDoor.Wire.wf_u64 (h2 x hx).1
    exact ⟨this.1, by have := this.2; omega⟩
  · intro xs
    exact Nat.le_succ _
theorem small_bulk {l : List S47} (h : (l.map fun x => x.f1.size + 1).sum ≤ 1048576) : Small l := by
  have h1 := sum_len (bulk := fun x : S47 => x.f1.size + 1) (xs := l) (fun x _ => by omega)
  refine small_of (by omega) (fun x hx => ?_)
  have := sum_part (bulk := fun x : S47 => x.f1.size + 1) hx
  omega
end Go.Proofs.YtmoopdhnnpjcfaaDoor.Co
