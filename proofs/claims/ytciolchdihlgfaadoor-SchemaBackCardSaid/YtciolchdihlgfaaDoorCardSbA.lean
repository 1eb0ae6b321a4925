-- WRITTEN by a program of this session's own (wip/gen/card.py)
/- decklelaw05.SchemaBack: for every input the call returns true; each argument reads afterwards as before. No condition. -/
import Derived.Test.YtciolchdihlgfaaDoorCards
import Derived.Test.YtciolchdihlgfaaDoorTie
import Derived.Test.YtciolchdihlgfaaDoorRowA
import Derived.Test.YtciolchdihlgfaaDoorRowW
import Derived.Test.YtciolchdihlgfaaDoorScMQ
import Derived.Test.YtciolchdihlgfaaDoorScW
import Derived.WalkKit
import Derived.ProofKit
import Derived.OpenShut
import Derived.ShutString
import Derived.Deep.DeepHandedRow
import Derived.Deep.DeepWitnessRowRef
import Derived.Lib.LaidIn
import Derived.SizedLaws
import Derived.Below
import Derived.ChangeOld
namespace Go.Proofs.YtciolchdihlgfaaDoor.schemaBack
open Go.ChangeShapes Go.WideShapes Go.ChangeAt Go.RowKit Go.Lib Go.Proofs.YtciolchdihlgfaaDoorW.PrintWords
open Go.ChangeMaps (open_string shut_string)
set_option linter.unusedVariables false
set_option maxRecDepth 100000
theorem own : ownKnob Tryd.prog.godebug = none := by kernel_rfl
theorem laidOut : laidOutB Tryd.prog = true := by kernel_rfl
/-- A world for the witness: the settled one, the listed variables laid. -/
noncomputable def laidWorld (os : Os) : World :=
  let w0 := World.holding Tryd.prog os ⟨#[], #[], []⟩
  let put (h : Array Obj) (g : Nat) (cs : Array Value) : Array Obj := h.modify g fun
    | .cells _ t frozen => .cells cs t frozen
    | o => o
  let h1 := put w0.heap 3 ((List.range 16).flatMap fun i => [Value.int .u8 (Lib.accLo i), Value.int .u8 (Lib.accHi i)]).toArray
  let h2 := put h1 0 #[Value.string ⟨#[105, 110, 116]⟩, Value.string ⟨#[117, 105, 110, 116]⟩, Value.string ⟨#[98, 111, 111, 108]⟩, Value.string ⟨#[98, 121, 116, 101, 115]⟩, Value.string ⟨#[116, 101, 120, 116]⟩, Value.string ⟨#[102, 108, 111, 97, 116]⟩]
  let h3 := put h2 2 (Lib.firstTab.map fun z => Value.int .u8 z).toArray
  { w0 with heap := h3 }
theorem laid_met (os : Os) : laidMet Tryd.prog Rows.schemaBackRow.laid ((laidWorld os).forCall (fun _ _ => 0) ⟨#[], #[Value.slice none 0 0, Value.int .u8 0], []⟩).memory :=
  laidMet_of_run' 8 (by kernel_rfl) (by kernel_rfl)
theorem reads (os : Os) {H : Type} (enc : TypeId × Value → H) : ∃ places, DataW.whole enc Tryd.prog ((laidWorld os).forCall (fun _ _ => 0) ⟨#[], #[Value.slice none 0 0, Value.int .u8 0], []⟩).memory Tryd.f5.params.toList Rows.schemaBackSpec.vars false (#[Value.slice none 0 0, Value.int .u8 0] : Array Value).toList 8 = some ([.nil, .lit (.int .u8 0)], [], places) :=
  ⟨[], by kernel_rfl⟩
theorem namesW {W : World} (hL : laidMetH Tryd.prog Rows.schemaBackRow.laid W) : Ce.NamesW W := Ce.names_of_reads (Lib.laidMet.reads hL (.tail _ (.head _)))
theorem contract (H : Type) (enc : TypeId × Value → H) (W : World) (base : Nat) (args : Array Value) (ds gs : List (DataW H)) (before : List MemPlace)
    (hval : ∀ (j : Nat) t v, Tryd.f5.params[j]? = some t → args[j]? = some v → Value.okWide Tryd.prog W .any base t v)
    (hW : DataW.Whole enc Tryd.prog Tryd.f5.params.toList Rows.schemaBackSpec.vars false W args.toList ds gs before) (hsz : (DataW.weightsEach Tryd.prog (Tryd.f5.params.toList ++ Rows.schemaBackSpec.plain.varTypes Tryd.prog) (ds ++ gs)).all (· ≤ reachBytes) = true) (hL : laidMetH Tryd.prog Rows.schemaBackRow.laid W) (hS : W.ShapedOpen Tryd.prog) :
    Calls Tryd.prog 5 args W fun e W' => ∃ v, e = .returned v ∧ Rows.schemaBackSpec.post enc Tryd.prog Tryd.f5 false true false false W args v W' := by
  have hN := namesW hL
  have hM := Sc.max_of hS
  have hW' := hW
  obtain ⟨p, q, hA0, hV, rfl, hfz, hnd⟩ := hW
  have hA : DataW.TrodAll enc Tryd.prog W 0 (fun _ => true) true Tryd.f5.params.toList args.toList ds p := hA0
  rw [Tryd.params5] at hA hval hsz
  obtain ⟨v0, vs0, d0, ds0, p0, q0, hargs, rfl, rfl, h0, r0⟩ := trodAll_cons hA
  obtain ⟨v1, vs1, d1, ds1, p1, q1, rfl, rfl, rfl, h1, r1⟩ := trodAll_cons r0
  obtain ⟨rfl, rfl, rfl⟩ := trodAll_nil r1
  obtain rfl : args = #[v0, v1] := by cases args; simp_all
  obtain ⟨rfl, rfl⟩ := trodVars_none hV
  have k0 := h0
  have lt0 : ∀ x ∈ p0, x.block < W.heap.size := by obtain ⟨m, hm⟩ := k0; exact DataW.trod_lt m _ _ _ hm
  obtain ⟨l0, A0, c0, rfl, C0, hc0, w0⟩ := RowW.param_slice Tryd.underlying24 (Sc.opensC W) (hval 0 24 _ rfl rfl) h0 (RowW.light_at hsz (j := 0) (t := 24) rfl rfl)
  obtain ⟨a1, rfl, rfl, rfl, w1⟩ := open_int Tryd.underlying5 (hval 1 5 _ rfl rfl) h1
  clear hA0 hsz
  refine (Sc.backs_calls a1 W hN hM C0 hc0 (Sc.sizes w0) (Wire.wf_u8 w1)).mono fun e W' ⟨he, bel⟩ => ?_
  subst he
  exact ⟨_, rfl, _, _, _, [], _, [], hW', trodAll_mk1 (shut_bool Tryd.underlying4 _), (trodAll_cons_mk (Below.trod laidOut (by kernel_rfl) (of_decide_eq_true (by kernel_rfl)) k0 bel lt0) (trodAll_cons_mk (shut_int Tryd.underlying5 w1) trodAll_mk0)), rfl, bel.frame _, fun h => by cases h⟩
theorem lifted (os : Os) (started : os.Started) (H : Type) (enc : TypeId × Value → H) (F : Stop.Interp) :
    ReturnsInHanded {} Tryd.checked os 5 .any ((OpenSpec.ofChange Rows.schemaBackSpec).preRow enc Tryd.prog Tryd.f5 Rows.schemaBackRow.domain false Rows.schemaBackRow.laid) (((OpenSpec.ofChange Rows.schemaBackSpec).at F).post enc Tryd.prog Tryd.f5 false true false false) := by
  obtain ⟨places, hx⟩ := reads os enc
  refine returnsInHanded_of_row (C := Tryd.checked) (s := OpenSpec.ofChange Rows.schemaBackSpec) own started (by kernel_rfl) Tryd.func5
    (witness_row_at (enc := enc) (C := Tryd.checked) false (laidWorld os) #[Value.slice none 0 0, Value.int .u8 0] rfl (by kernel_rfl) (by kernel_rfl) (by kernel_rfl)
      (OpenSpec.preRow_of_cond 8 hx (by kernel_rfl) (fun k hk => by cases hk) (by kernel_rfl) (laid_met os))) ?_
  intro W base args ds gs before hval hW _ hcnd hsz hL hS _
  exact contract H enc W base args ds gs before hval hW hsz hL hS
end Go.Proofs.YtciolchdihlgfaaDoor.schemaBack
