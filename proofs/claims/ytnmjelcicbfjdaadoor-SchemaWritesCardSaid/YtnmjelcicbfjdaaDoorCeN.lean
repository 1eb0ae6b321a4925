import Derived.Test.YtnmjelcicbfjdaaDoorSpC
import Derived.Test.YtnmjelcicbfjdaaDoorShc
import Derived.Test.YtnmjelcicbfjdaaDoorRows
import Derived.Lib.LaidU8
/-! Cell: the kinds' names, as the program's variable holds them. -/
namespace Go.Proofs.YtnmjelcicbfjdaaDoor.Ce
open Go.RowKit Go.Proofs.YtnmjelcicbfjdaaDoorW.PrintWords Go.Proofs.YtnmjelcicbfjdaaDoorW.PrintLast Go.Proofs.YtnmjelcicbfjdaaDoorW.PrintMore Go.Proofs.YtnmjelcicbfjdaaDoor.Wire Go.Proofs.YtnmjelcicbfjdaaDoor.PCo Go.Proofs.YtnmjelcicbfjdaaDoor.Co Go.Lib
set_option linter.unusedVariables false
set_option linter.unusedSimpArgs false
set_option maxRecDepth 100000
def NAMES : List ByteArray := [(⟨#[105, 110, 116]⟩ : ByteArray), (⟨#[117, 105, 110, 116]⟩ : ByteArray), (⟨#[98, 111, 111, 108]⟩ : ByteArray), (⟨#[98, 121, 116, 101, 115]⟩ : ByteArray), (⟨#[116, 101, 120, 116]⟩ : ByteArray), (⟨#[102, 108, 111, 97, 116]⟩ : ByteArray)]
/-- The variable cell.names holds the kinds' names. -/
structure NamesW (w : World) : Prop where
  cell : ∀ j, j < 6 → w.cell? ⟨1, 0 + j, none⟩ = some (.string (NAMES.getD j ByteArray.empty))
  lt : 1 < w.heap.size
theorem NamesW.below {w w' : World} (h : NamesW w) (hb : Below w.heap.size w w') : NamesW w' := by
  refine ⟨fun j hj => ?_, Nat.lt_of_lt_of_le h.lt hb.size⟩
  rw [← h.cell j hj]
  have := hb.block _ h.lt
  simp only [World.cell?]
  rw [this]
theorem names_of_reads {w : World} (h : VarReads Tryd.prog w "deckle/cell.names" Rows.laid_deckle_cell_names) : NamesW w := by
  obtain ⟨g, t, cs, fuel, p, hg, hty, hvar, hd⟩ := h
  obtain rfl : 1 = g := Option.some.inj ((show Tryd.prog.globalNamed "deckle/cell.names" = some 1 from by kernel_rfl).symm.trans hg)
  obtain rfl : 85 = t := Option.some.inj ((show (Tryd.prog.globals[1]?).map (·.type) = some 85 from by kernel_rfl).symm.trans hty)
  have key : ∀ j, j < 6 → w.cell? ⟨1, 0 + j, none⟩ = some (.string (NAMES.getD j ByteArray.empty)) := by
    intro j hj
    obtain ⟨fuel', d, q, hdi, he⟩ := array_elem Tryd.underlying85 hd j hj
    rw [show Tryd.prog.cellsOf 9 = 1 from by kernel_rfl] at he
    obtain ⟨s, e1, e2, -⟩ := DataW.trod_string Tryd.underlying9 he
    have e3 : cs[j]? = some (.string s) := by
      have := congrArg (·[0]?) e1
      simp only [List.getElem?_take, List.getElem?_drop, Nat.mul_one] at this
      simpa using this
    rw [Nat.zero_add, World.var?_cell hg hvar j, e3]
    simp only [Prod.mk.injEq] at e2
    rw [e2.1] at hdi
    congr 2
    have hs : ∀ l : List UInt8, s.data.toList = l → s = ⟨l.toArray⟩ := fun l hl => by
      obtain ⟨a⟩ := s
      have : a.toList = l := hl
      rw [← this]
    have hj' : j = 0 ∨ j = 1 ∨ j = 2 ∨ j = 3 ∨ j = 4 ∨ j = 5 := by omega
    rcases hj' with rfl | rfl | rfl | rfl | rfl | rfl <;> (simp at hdi; exact hs _ hdi.symm)
  refine ⟨key, ?_⟩
  have h0 := key 0 (by omega)
  simp only [World.cell?] at h0
  cases hh : w.heap[1]? with
  | none => rw [hh] at h0; simp at h0
  | some o => exact blk_lt hh
theorem row_of (w' : World) (B : Nat) {v : Value} (h : w'.ownsRow B 9 1 v 6 (NAMES.map Value.string)) : Kd.R Kd.string 9 w' B (fun _ => True) v NAMES :=
  ⟨fun _ _ => trivial, _, h, by
    unfold NAMES
    simp only [List.map_cons, List.map_nil]
    exact Reps.one (show Kd.M Kd.string _ _ _ _ [_] from rfl) (Reps.one (show Kd.M Kd.string _ _ _ _ [_] from rfl) (Reps.one (show Kd.M Kd.string _ _ _ _ [_] from rfl) (Reps.one (show Kd.M Kd.string _ _ _ _ [_] from rfl) (Reps.one (show Kd.M Kd.string _ _ _ _ [_] from rfl) (Reps.one (show Kd.M Kd.string _ _ _ _ [_] from rfl) (Reps.none _ _))))))⟩
set_option maxHeartbeats 4000000 in
theorem names_calls (w : World) (hN : NamesW w) : Calls Tryd.prog 21 #[] w fun e w' => ∃ v, e = .returned v ∧ Kd.R Kd.string 9 w' w.heap.size (fun _ => True) v NAMES ∧ Below w.heap.size w w' := by
  have HC := Aside0.mk (fun (W : World) (hn : NamesW W) => Tryd.slices_Clone_string 1 0 6 6 NAMES W (by decide) (by decide) (fun j hj => hn.cell j hj))
  go_enter Tryd.func21, Tryd.ntmps21
  go_wp2_with fail
  refine (HC.out _ hN).mono ?_
  rintro e w1 ⟨v, rfl, ho, -, hb⟩
  go_wp2_with fail
  go_ret
  exact ⟨v, rfl, row_of _ _ ho, hb⟩
end Go.Proofs.YtnmjelcicbfjdaaDoor.Ce
