import Derived.ProofKit
import Derived.OpenShut
import Derived.Test.YtciolchdihlgfaaGreatDoorProg
namespace Go.Proofs.YtciolchdihlgfaaGreatDoor.RowA
open Go.ChangeShapes Go.WideShapes Go.ChangeAt Go.RowKit
set_option linter.unusedVariables false
variable {P : Program} {W : World} {H : Type} {enc : TypeId × Value → H}
def intAt (cs : Array Value) (i : Nat) : Int :=
  match cs[i]? with
  | some (Value.int _ z) => z
  | _ => 0
theorem intAt_of {cs : Array Value} {i : Nat} {k : IntKind} {z : Int} (h : cs[i]? = some (.int k z)) : intAt cs i = z := by unfold intAt; rw [h]
/-- An array of whole numbers, by value. -/
theorem open_arr_ints {n : Nat} {t e : TypeId} {k : IntKind} {r : Reach} {base b2 : Nat} {spare : Nat → Bool} {held : Bool} {v : Value} {d : DataW H} {p : List MemPlace} (ht : P.underlying t = some (.array n e)) (he : P.underlying e = some (.int k)) (hC : P.cellsOf e = 1) (hT : P.cellsOf t = n)
    (hv : Value.okWide P W r base t v) (h : DataW.Trod enc P W b2 spare held t v d p) : ∃ zs : List Int, zs.length = n ∧ v = .agg (zs.map (Value.int k)).toArray ∧ ∀ z ∈ zs, (Lit.int k z).wf = true := by
  simp only [Value.okWide, ht] at hv
  obtain ⟨cs, rfl, hsz, _⟩ := hv
  obtain ⟨fuel, hf⟩ := h
  have hf' : DataW.trod enc P W b2 spare held fuel t cs.toList = some (d, p) := hf
  obtain ⟨xs, m, _, _, _, hn, hel⟩ := DataW.trod_array ht hf'
  rw [hT] at hsz
  have key : ∀ i, i < n → ∃ z, cs[i]? = some (.int k z) ∧ (Lit.int k z).wf = true := by
    intro i hi
    have hx := hel i hi
    rw [hC, Nat.mul_one, List.getElem?_eq_getElem (by omega)] at hx
    obtain ⟨z, e1, _, wz⟩ := DataW.trod_int he hx
    refine ⟨z, ?_, wz⟩
    have hl : (cs.toList.drop i)[0]? = some (.int k z) := by
      have := congrArg (fun q => q[0]?) e1
      simpa [List.getElem?_take] using this
    simpa using hl
  refine ⟨(List.range n).map (intAt cs), by simp, ?_, ?_⟩
  · congr 1
    apply Array.ext
    · simp [hsz]
    · intro i h1 h2
      obtain ⟨z, hz, _⟩ := key i (by omega)
      have e2 : cs[i] = .int k z := by
        rw [Array.getElem?_eq_getElem h1] at hz
        exact Option.some.inj hz
      simp [intAt_of hz, e2]
  · intro z hz
    obtain ⟨i, hi, rfl⟩ := List.mem_map.mp hz
    obtain ⟨z', hz', wz⟩ := key i (List.mem_range.mp hi)
    rw [intAt_of hz']
    exact wz
theorem arr2 {zs : List Int} (h : zs.length = 2) : ∃ a b, zs = [a, b] := by
  match zs, h with
  | [a, b], _ => exact ⟨a, b, rfl⟩
theorem arr3 {zs : List Int} (h : zs.length = 3) : ∃ a b c, zs = [a, b, c] := by
  match zs, h with
  | [a, b, c], _ => exact ⟨a, b, c, rfl⟩
end Go.Proofs.YtciolchdihlgfaaGreatDoor.RowA
