import Derived.Test.YtnmjelcicbfjdaaDoorPScx
import Derived.Test.YtnmjelcicbfjdaaDoorRowW
import Derived.Test.YtnmjelcicbfjdaaDoorWireSpec2
import Derived.Test.YtnmjelcicbfjdaaDoorScAF
import Derived.Shelf.LaysM
/-! Columns, as an argument; the variable internal/bytealg.MaxLen in a world of the claim's. -/
namespace Go.Proofs.YtnmjelcicbfjdaaDoor.Sc
open Go.RowKit Go.Proofs.YtnmjelcicbfjdaaDoorW.PrintWords Go.Proofs.YtnmjelcicbfjdaaDoor.PSc Go.Proofs.YtnmjelcicbfjdaaDoor.RowW
set_option linter.unusedVariables false
set_option maxRecDepth 100000
structure WfC (l : List S54) : Prop where
  len : l.length ≤ 5864062014635
  text : ∀ x ∈ l, x.f0.size ≤ 140737488351232
theorem opensC (W : World) : Opens Tryd.prog W (Kd.slice 54 k54) 47 WfC := by
  refine opens_mono (opens_slice Tryd.underlying47 (by kernel_rfl) (opens_iso (opens_struct Tryd.underlying54 (by kernel_rfl)
    (opensF_cons (opens_string Tryd.underlying9) rfl (by kernel_rfl) (opensF_one (opens_int Tryd.underlying3) rfl (by kernel_rfl)))) _ (fun q => (⟨q.1, q.2⟩ : S54)) (fun _ => rfl))) ?_
  rintro xs ⟨-, h1, h2⟩
  rw [show Tryd.prog.bytesOf 54 = 24 from by kernel_rfl] at h1
  exact ⟨by unfold reachBytes at h1; omega, fun x hx => (h2 x hx).1⟩
theorem max_of {w : World} (h : w.ShapedOpen Tryd.prog) : MaxW w :=
  ⟨Go.Proofs.cell_of_shapedOpen_int (zero := #[.int .i64 0]) (t := 3) h (of_decide_eq_true (by kernel_rfl)) (by kernel_rfl) rfl (by kernel_rfl) (by kernel_rfl) Tryd.underlying3⟩
theorem sizes {l : List S54} (h : WfC l) (i : Int) : (rd_T54 l i).f0.size ≤ 9223372036854775807 :=
  Nat.le_trans (rd_size (B := 140737488351232) h.text i) (by decide)
end Go.Proofs.YtnmjelcicbfjdaaDoor.Sc
