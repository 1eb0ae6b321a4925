-- WRITTEN by a program of this session's own (wip/gen/card.py)
/- decklelaw09.ColumnTwo: for every input the call returns true; each argument reads afterwards as before. No condition. -/
import Derived.Test.YtmoopdhnnpjcfaaDoorCards
import Derived.Test.YtmoopdhnnpjcfaaDoorTie
import Derived.Test.YtmoopdhnnpjcfaaDoorRowA
import Derived.Test.YtmoopdhnnpjcfaaDoorRowW
import Derived.Test.YtmoopdhnnpjcfaaDoorOpC
import Derived.Test.YtmoopdhnnpjcfaaDoorTw
import Derived.WalkKit
import Derived.ProofKit
import Derived.OpenShut
import Derived.ShutString
import Derived.Deep.DeepHandedRow
import Derived.Deep.DeepWitnessRowRef
import Derived.Lib.LaidIn
import Derived.Lib.LaidU8T
import Derived.SizedLaws
import Derived.Below
import Derived.ChangeOld
namespace Go.Proofs.YtmoopdhnnpjcfaaDoor.columnTwo
open Go.ChangeShapes Go.WideShapes Go.ChangeAt Go.RowKit Go.Lib Go.Proofs.YtmoopdhnnpjcfaaDoorW.PrintWords
open Go.ChangeMaps (open_string shut_string)
set_option linter.unusedVariables false
set_option maxRecDepth 100000
theorem own : ownKnob Tryd.prog.godebug = none := by kernel_rfl
theorem laidOut : laidOutB Tryd.prog = true := by kernel_rfl
/-- A world for the witness: the settled one, the two tables laid. -/
noncomputable def laidWorld (os : Os) : World :=
  let w0 := World.holding Tryd.prog os ⟨#[], #[], []⟩
  let put (h : Array Obj) (g : Nat) (cs : Array Value) : Array Obj := h.modify g fun
    | .cells _ t frozen => .cells cs t frozen
    | o => o
  let h1 := put w0.heap (Tryd.laysValid_ren.g 3) (Lib.firstTab.map fun z => Value.int .u8 z).toArray
  let h2 := put h1 (Tryd.laysValid_ren.g 4) ((List.range 16).flatMap fun i => [Value.int .u8 (Lib.accLo i), Value.int .u8 (Lib.accHi i)]).toArray
  { w0 with heap := h2 }
theorem laid_met (os : Os) : laidMet Tryd.prog Rows.columnTwoRow.laid ((laidWorld os).forCall (fun _ _ => 0) ⟨#[], #[Value.agg #[.int .u8 0, .int .u8 0], Value.slice none 0 0, Value.slice none 0 0], []⟩).memory :=
  laidMet_of_run' 8 (by kernel_rfl) (by kernel_rfl)
theorem reads (os : Os) {H : Type} (enc : TypeId × Value → H) : ∃ places, DataW.whole enc Tryd.prog ((laidWorld os).forCall (fun _ _ => 0) ⟨#[], #[Value.agg #[.int .u8 0, .int .u8 0], Value.slice none 0 0, Value.slice none 0 0], []⟩).memory Tryd.f6.params.toList Rows.columnTwoSpec.vars false (#[Value.agg #[.int .u8 0, .int .u8 0], Value.slice none 0 0, Value.slice none 0 0] : Array Value).toList 8 = some ([.agg [.lit (.int .u8 0), .lit (.int .u8 0)], .nil, .nil], [], places) :=
  ⟨[], by kernel_rfl⟩
theorem tabs {W : World} (hL : laidMetH Tryd.prog Rows.columnTwoRow.laid W) : UtfW W :=
  utf8Tabs_of_readsT (U8Types.of196 Tryd.laysValid) ⟨by kernel_rfl, by kernel_rfl, by kernel_rfl, by kernel_rfl, by kernel_rfl, by kernel_rfl, by kernel_rfl⟩ (Lib.laidMet.reads hL (.tail _ (.head _))) (Lib.laidMet.reads hL (.head _))
theorem contract (H : Type) (enc : TypeId × Value → H) (W : World) (base : Nat) (args : Array Value) (ds gs : List (DataW H)) (before : List MemPlace)
    (hval : ∀ (j : Nat) t v, Tryd.f6.params[j]? = some t → args[j]? = some v → Value.okWide Tryd.prog W .any base t v)
    (hW : DataW.Whole enc Tryd.prog Tryd.f6.params.toList Rows.columnTwoSpec.vars false W args.toList ds gs before) (hsz : (DataW.weightsEach Tryd.prog (Tryd.f6.params.toList ++ Rows.columnTwoSpec.plain.varTypes Tryd.prog) (ds ++ gs)).all (· ≤ reachBytes) = true) (hL : laidMetH Tryd.prog Rows.columnTwoRow.laid W) :
    Calls Tryd.prog 6 args W fun e W' => ∃ v, e = .returned v ∧ Rows.columnTwoSpec.post enc Tryd.prog Tryd.f6 false true false false W args v W' := by
  have hU := tabs hL
  have hW' := hW
  obtain ⟨p, q, hA0, hV, rfl, hfz, hnd⟩ := hW
  have hA : DataW.TrodAll enc Tryd.prog W 0 (fun _ => true) true Tryd.f6.params.toList args.toList ds p := hA0
  rw [Tryd.params6] at hA hval hsz
  obtain ⟨v0, vs0, d0, ds0, p0, q0, hargs, rfl, rfl, h0, r0⟩ := trodAll_cons hA
  obtain ⟨v1, vs1, d1, ds1, p1, q1, rfl, rfl, rfl, h1, r1⟩ := trodAll_cons r0
  obtain ⟨v2, vs2, d2, ds2, p2, q2, rfl, rfl, rfl, h2, r2⟩ := trodAll_cons r1
  obtain ⟨rfl, rfl, rfl⟩ := trodAll_nil r2
  obtain rfl : args = #[v0, v1, v2] := by cases args; simp_all
  obtain ⟨rfl, rfl⟩ := trodVars_none hV
  have k0 := h0
  have lt0 : ∀ x ∈ p0, x.block < W.heap.size := by obtain ⟨m, hm⟩ := k0; exact DataW.trod_lt m _ _ _ hm
  obtain ⟨zs0, hl0, rfl, hw0⟩ := RowA.open_arr_ints Tryd.underlying38 Tryd.underlying5 (by kernel_rfl) (by kernel_rfl) (hval 0 38 _ rfl rfl) h0
  obtain ⟨a0_0, a0_1, rfl⟩ := RowA.arr2 hl0
  have w0_0 : (Lit.int .u8 a0_0).wf = true := hw0 _ (by simp)
  have w0_1 : (Lit.int .u8 a0_1).wf = true := hw0 _ (by simp)
  have k1 := h1
  have lt1 : ∀ x ∈ p1, x.block < W.heap.size := by obtain ⟨m, hm⟩ := k1; exact DataW.trod_lt m _ _ _ hm
  obtain ⟨l1, A1, c1, rfl, C1, hc1, w1⟩ := RowW.param_slice Tryd.underlying22 (Co.opensC W) (hval 1 22 _ rfl rfl) h1 (RowW.light_at hsz (j := 1) (t := 22) rfl rfl)
  have k2 := h2
  have lt2 : ∀ x ∈ p2, x.block < W.heap.size := by obtain ⟨m, hm⟩ := k2; exact DataW.trod_lt m _ _ _ hm
  obtain ⟨l2, A2, c2, rfl, C2, hc2, w2⟩ := RowW.param_slice Tryd.underlying22 (Co.opensC W) (hval 2 22 _ rfl rfl) h2 (RowW.light_at hsz (j := 2) (t := 22) rfl rfl)
  clear hA0 hsz
  refine (Tw.two_calls a0_0 a0_1 W hU (Wire.wf_u8 w0_0) (Wire.wf_u8 w0_1) C1 hc1 C2 hc2 (by have := w1.len; omega) (Bk.tx_all w1.text) (Bk.nm_all w1.num) (by have := w2.len; omega) (Bk.tx_all w2.text) (Bk.nm_all w2.num)).mono fun e W' ⟨he, bel⟩ => ?_
  subst he
  exact ⟨_, rfl, _, _, _, [], _, [], hW', trodAll_mk1 (shut_bool Tryd.underlying4 _), (trodAll_cons_mk (Below.trod laidOut (by kernel_rfl) (of_decide_eq_true (by kernel_rfl)) k0 bel lt0) (trodAll_cons_mk (Below.trod laidOut (by kernel_rfl) (of_decide_eq_true (by kernel_rfl)) k1 bel lt1) (trodAll_cons_mk (Below.trod laidOut (by kernel_rfl) (of_decide_eq_true (by kernel_rfl)) k2 bel lt2) trodAll_mk0))), rfl, bel.frame _, fun h => by cases h⟩
theorem lifted (os : Os) (started : os.Started) (H : Type) (enc : TypeId × Value → H) (F : Stop.Interp) :
    ReturnsInHanded {} Tryd.checked os 6 .any ((OpenSpec.ofChange Rows.columnTwoSpec).preRow enc Tryd.prog Tryd.f6 Rows.columnTwoRow.domain false Rows.columnTwoRow.laid) (((OpenSpec.ofChange Rows.columnTwoSpec).at F).post enc Tryd.prog Tryd.f6 false true false false) := by
  obtain ⟨places, hx⟩ := reads os enc
  refine returnsInHanded_of_row (C := Tryd.checked) (s := OpenSpec.ofChange Rows.columnTwoSpec) own started (by kernel_rfl) Tryd.func6
    (witness_row_at (enc := enc) (C := Tryd.checked) false (laidWorld os) #[Value.agg #[.int .u8 0, .int .u8 0], Value.slice none 0 0, Value.slice none 0 0] rfl (by kernel_rfl) (by kernel_rfl) (by kernel_rfl)
      (OpenSpec.preRow_of_cond 8 hx (by kernel_rfl) (fun k hk => by cases hk) (by kernel_rfl) (laid_met os))) ?_
  intro W base args ds gs before hval hW _ hcnd hsz hL _ _
  exact contract H enc W base args ds gs before hval hW hsz hL
end Go.Proofs.YtmoopdhnnpjcfaaDoor.columnTwo
