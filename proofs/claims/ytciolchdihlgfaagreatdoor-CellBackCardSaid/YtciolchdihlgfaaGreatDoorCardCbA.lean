-- WRITTEN by a program of this session's own (wip/gen/card.py)
/- decklelaw04.CellBack: for every input the call returns true; each argument reads afterwards as before. No condition. -/
import Derived.Test.YtciolchdihlgfaaGreatDoorCards
import Derived.Test.YtciolchdihlgfaaGreatDoorTie
import Derived.Test.YtciolchdihlgfaaGreatDoorRowA
import Derived.Test.YtciolchdihlgfaaGreatDoorRowW
import Derived.Test.YtciolchdihlgfaaGreatDoorRowC
import Derived.Test.YtciolchdihlgfaaGreatDoorTxK
import Derived.WalkKit
import Derived.ProofKit
import Derived.OpenShut
import Derived.ShutString
import Derived.Deep.DeepHandedRow
import Derived.Deep.DeepWitnessRowRef
import Derived.Lib.LaidIn
import Derived.SizedLaws
import Derived.Below
import Derived.ChangeOld
import Derived.Lib.LaidU8T
import Derived.Test.YtciolchdihlgfaaGreatDoorTxG
import Derived.Test.YtciolchdihlgfaaGreatDoorTxD
import Derived.Test.YtciolchdihlgfaaGreatDoorRows
import Derived.Stop.LaidErr
import Derived.Lib.LaidU8
/-! What a row's listed variables give: strconv's errors, the powers of ten, the table of bits. -/
namespace Go.Proofs.YtciolchdihlgfaaGreatDoor.Tx
open Go.RowKit Go.Proofs.YtciolchdihlgfaaGreatDoorW.PrintWords Go.Proofs.YtciolchdihlgfaaGreatDoorW.PrintLast Go.Proofs.YtciolchdihlgfaaGreatDoorW.PrintMore
open Go.Lib
set_option linter.unusedVariables false
set_option maxRecDepth 100000
theorem star : "*" ++ "errors.errorString" = "*errors.errorString" := by decide
theorem rowE (u : TypeId) (h : Tryz.prog.typeName? 3 u = some "*errors.errorString") : u = 255 :=
  typeName_ptr_named (nm := "errors.errorString") (by rw [star]; kernel_rfl) (by kernel_rfl) (by decide) u (by rw [star]; exact h)
theorem err_of {n : String} {g : Nat} {text : List UInt8} {r : List (String × DataW Unit)} {W : World} (h : laidMet Tryz.prog ((n, .iface "*errors.errorString" (.ptr (.agg [.lit (.string text)]))) :: r) W)
    (hg : Tryz.prog.globalNamed n = some g) (ht : (Tryz.prog.globals[g]?).map (·.type) = some 166) : ∃ t p, W.var? Tryz.prog n = some #[.iface t p] := by
  obtain ⟨a, s, hv, -, -, -⟩ := laid_sentinel h hg ht Tryz.underlying166 rowE Tryz.underlying255 Tryz.underlying257 rfl rfl Tryz.underlying9 (by kernel_rfl) (by kernel_rfl)
  exact ⟨_, _, hv⟩
theorem var_lt {W : World} {n : String} {g : Nat} {x : Array Value} (hg : Tryz.prog.globalNamed n = some g) (h : W.var? Tryz.prog n = some x) : g < W.heap.size := by
  unfold World.var? at h
  rw [hg] at h
  simp only [Option.bind_some] at h
  apply Decidable.byContradiction
  intro hc
  rw [Array.getElem?_eq_none (by omega)] at h
  cases h
theorem pow_of_reads {W : World} (h : VarReads Tryz.prog W "internal/strconv.uint64pow10" Rows.laid_internal_strconv_uint64pow10) : PowW W := by
  obtain ⟨g, t, cs, fuel, p, hg, hty, hvar, hd⟩ := h
  obtain rfl : 5 = g := Option.some.inj ((show Tryz.prog.globalNamed "internal/strconv.uint64pow10" = some 5 from by kernel_rfl).symm.trans hg)
  obtain rfl : 245 = t := Option.some.inj ((show (Tryz.prog.globals[5]?).map (·.type) = some 245 from by kernel_rfl).symm.trans hty)
  have e : (Rows.laid_internal_strconv_uint64pow10 : DataW Unit) = tabData .u64 pow10Tab := by kernel_rfl
  rw [e] at hd
  refine ⟨?_, var_lt hg hvar⟩
  unfold TabIs
  rw [hvar, ← cells_of_tab Tryz.underlying245 Tryz.underlying22 (by kernel_rfl) (by kernel_rfl) hd]
theorem bit_of_reads {W : World} (h : VarReads Tryz.prog W "math/bits.deBruijn64tab" Rows.laid_math_bits_deBruijn64tab) : BitW W := by
  obtain ⟨g, t, cs, fuel, p, hg, hty, hvar, hd⟩ := h
  obtain rfl : 9 = g := Option.some.inj ((show Tryz.prog.globalNamed "math/bits.deBruijn64tab" = some 9 from by kernel_rfl).symm.trans hg)
  obtain rfl : 260 = t := Option.some.inj ((show (Tryz.prog.globals[9]?).map (·.type) = some 260 from by kernel_rfl).symm.trans hty)
  obtain ⟨zs, e, e15, hl⟩ : ∃ zs : List Int, (Rows.laid_math_bits_deBruijn64tab : DataW Unit) = tabData .u8 zs ∧ zs.getD 15 0 = 4 ∧ 15 < zs.length := ⟨[0, 1, 56, 2, 57, 49, 28, 3, 61, 58, 42, 50, 38, 29, 17, 4, 62, 47, 59, 36, 45, 43, 51, 22, 53, 39, 33, 30, 24, 18, 12, 5, 63, 55, 48, 27, 60, 41, 37, 16, 46, 35, 44, 21, 52, 32, 23, 11, 54, 26, 40, 15, 34, 20, 31, 10, 25, 14, 19, 9, 13, 8, 7, 6], by kernel_rfl, by kernel_rfl, by decide⟩
  rw [e] at hd
  have ht : TabIs Tryz.prog W "math/bits.deBruijn64tab" .u8 zs := by
    unfold TabIs
    rw [hvar, ← cells_of_tab Tryz.underlying260 Tryz.underlying5 (by kernel_rfl) (by kernel_rfl) hd]
  refine ⟨?_, var_lt hg hvar⟩
  rw [ht.cell hg 15 hl, e15]
theorem wf_i64 {a : Int} (h : (Lit.int .i64 a).wf = true) : -9223372036854775808 ≤ a ∧ a ≤ 9223372036854775807 := by
  simp only [Lit.wf, IntKind.min, IntKind.max, IntKind.signed, IntKind.bits, Bool.and_eq_true, decide_eq_true_eq] at h
  simp at h
  omega
end Go.Proofs.YtciolchdihlgfaaGreatDoor.Tx

namespace Go.Proofs.YtciolchdihlgfaaGreatDoor.cellBack
open Go.ChangeShapes Go.WideShapes Go.ChangeAt Go.RowKit Go.Lib Go.Proofs.YtciolchdihlgfaaGreatDoorW.PrintWords
open Go.ChangeMaps (open_string shut_string)
set_option linter.unusedVariables false
set_option maxRecDepth 100000
theorem own : ownKnob Tryz.prog.godebug = none := by kernel_rfl
theorem laidOut : laidOutB Tryz.prog = true := by kernel_rfl
/-- So many blocks has the settled world. -/
noncomputable def low : Nat := (World.holding Tryz.prog default ⟨#[], #[], []⟩).heap.size
/-- A world for the witness: the settled one, the listed variables laid. -/
noncomputable def laidWorld (os : Os) : World :=
  let w0 := World.holding Tryz.prog os ⟨#[.cells #[.string ⟨#[118, 97, 108, 117, 101, 32, 111, 117, 116, 32, 111, 102, 32, 114, 97, 110, 103, 101]⟩] 257, .cells #[.string ⟨#[105, 110, 118, 97, 108, 105, 100, 32, 115, 121, 110, 116, 97, 120]⟩] 257], #[], []⟩
  let put (h : Array Obj) (g : Nat) (cs : Array Value) : Array Obj := h.modify g fun
    | .cells _ t frozen => .cells cs t frozen
    | o => o
  let h1 := put w0.heap 8 #[Value.int .u8 0, Value.int .u8 1, Value.int .u8 28, Value.int .u8 2, Value.int .u8 29, Value.int .u8 14, Value.int .u8 24, Value.int .u8 3, Value.int .u8 30, Value.int .u8 22, Value.int .u8 20, Value.int .u8 15, Value.int .u8 25, Value.int .u8 17, Value.int .u8 4, Value.int .u8 8, Value.int .u8 31, Value.int .u8 27, Value.int .u8 13, Value.int .u8 23, Value.int .u8 21, Value.int .u8 19, Value.int .u8 16, Value.int .u8 7, Value.int .u8 26, Value.int .u8 12, Value.int .u8 18, Value.int .u8 6, Value.int .u8 11, Value.int .u8 5, Value.int .u8 10, Value.int .u8 9]
  let h2 := put h1 9 #[Value.int .u8 0, Value.int .u8 1, Value.int .u8 56, Value.int .u8 2, Value.int .u8 57, Value.int .u8 49, Value.int .u8 28, Value.int .u8 3, Value.int .u8 61, Value.int .u8 58, Value.int .u8 42, Value.int .u8 50, Value.int .u8 38, Value.int .u8 29, Value.int .u8 17, Value.int .u8 4, Value.int .u8 62, Value.int .u8 47, Value.int .u8 59, Value.int .u8 36, Value.int .u8 45, Value.int .u8 43, Value.int .u8 51, Value.int .u8 22, Value.int .u8 53, Value.int .u8 39, Value.int .u8 33, Value.int .u8 30, Value.int .u8 24, Value.int .u8 18, Value.int .u8 12, Value.int .u8 5, Value.int .u8 63, Value.int .u8 55, Value.int .u8 48, Value.int .u8 27, Value.int .u8 60, Value.int .u8 41, Value.int .u8 37, Value.int .u8 16, Value.int .u8 46, Value.int .u8 35, Value.int .u8 44, Value.int .u8 21, Value.int .u8 52, Value.int .u8 32, Value.int .u8 23, Value.int .u8 11, Value.int .u8 54, Value.int .u8 26, Value.int .u8 40, Value.int .u8 15, Value.int .u8 34, Value.int .u8 20, Value.int .u8 31, Value.int .u8 10, Value.int .u8 25, Value.int .u8 14, Value.int .u8 19, Value.int .u8 9, Value.int .u8 13, Value.int .u8 8, Value.int .u8 7, Value.int .u8 6]
  let h3 := put h2 5 #[Value.int .u64 1, Value.int .u64 10, Value.int .u64 100, Value.int .u64 1000, Value.int .u64 10000, Value.int .u64 100000, Value.int .u64 1000000, Value.int .u64 10000000, Value.int .u64 100000000, Value.int .u64 1000000000, Value.int .u64 10000000000, Value.int .u64 100000000000, Value.int .u64 1000000000000, Value.int .u64 10000000000000, Value.int .u64 100000000000000, Value.int .u64 1000000000000000, Value.int .u64 10000000000000000, Value.int .u64 100000000000000000, Value.int .u64 1000000000000000000, Value.int .u64 10000000000000000000]
  let h4 := put h3 2 ((List.range 16).flatMap fun i => [Value.int .u8 (Lib.accLo i), Value.int .u8 (Lib.accHi i)]).toArray
  let h5 := put h4 7 #[Value.iface 255 (.pointer (some ⟨low, 0, none⟩))]
  let h6 := put h5 6 #[Value.iface 255 (.pointer (some ⟨low + 1, 0, none⟩))]
  let h7 := put h6 1 (Lib.firstTab.map fun z => Value.int .u8 z).toArray
  { w0 with heap := h7 }
theorem laid_met (os : Os) : laidMet Tryz.prog Rows.cellBackRow.laid ((laidWorld os).forCall (fun _ _ => 0) ⟨#[], #[Value.int .i64 0, Value.agg #[.int .u64 0, .string ⟨#[]⟩], Value.agg #[.int .i64 0, .int .i64 0]], []⟩).memory :=
  laidMet_of_run' 8 (by kernel_rfl) (by kernel_rfl)
theorem reads (os : Os) {H : Type} (enc : TypeId × Value → H) : ∃ places, DataW.whole enc Tryz.prog ((laidWorld os).forCall (fun _ _ => 0) ⟨#[], #[Value.int .i64 0, Value.agg #[.int .u64 0, .string ⟨#[]⟩], Value.agg #[.int .i64 0, .int .i64 0]], []⟩).memory Tryz.f4.params.toList Rows.cellBackSpec.vars false (#[Value.int .i64 0, Value.agg #[.int .u64 0, .string ⟨#[]⟩], Value.agg #[.int .i64 0, .int .i64 0]] : Array Value).toList 8 = some ([.lit (.int .i64 0), .agg [.lit (.int .u64 0), .lit (.string [])], .agg [.lit (.int .i64 0), .lit (.int .i64 0)]], [], places) :=
  ⟨[], by kernel_rfl⟩
theorem tabs {W : World} (hL : laidMetH Tryz.prog Rows.cellBackRow.laid W) : UtfW W :=
  utf8Tabs_of_readsT (U8Types.of196 Tryz.laysValid) ⟨by kernel_rfl, by kernel_rfl, by kernel_rfl, by kernel_rfl, by kernel_rfl, by kernel_rfl, by kernel_rfl⟩ (Lib.laidMet.reads hL (.tail _ (.tail _ (.tail _ (.tail _ (.tail _ (.tail _ (.head _)))))))) (Lib.laidMet.reads hL (.tail _ (.tail _ (.tail _ (.head _)))))
theorem powW {W : World} (hL : laidMetH Tryz.prog Rows.cellBackRow.laid W) : Tx.PowW W := Tx.pow_of_reads (Lib.laidMet.reads hL (.tail _ (.tail _ (.head _))))
theorem bitW {W : World} (hL : laidMetH Tryz.prog Rows.cellBackRow.laid W) : Tx.BitW W := Tx.bit_of_reads (Lib.laidMet.reads hL (.tail _ (.head _)))
theorem errW {W : World} (hL : laidMetH Tryz.prog Rows.cellBackRow.laid W) : Tx.ErrW W :=
  have h : laidMet Tryz.prog Rows.cellBackRow.laid W := hL
  ⟨Tx.err_of (g := 6) h.tail.tail.tail.tail.tail (by kernel_rfl) (by kernel_rfl), Tx.err_of (g := 7) h.tail.tail.tail.tail (by kernel_rfl) (by kernel_rfl)⟩
theorem contract (H : Type) (enc : TypeId × Value → H) (W : World) (base : Nat) (args : Array Value) (ds gs : List (DataW H)) (before : List MemPlace)
    (hval : ∀ (j : Nat) t v, Tryz.f4.params[j]? = some t → args[j]? = some v → Value.okWide Tryz.prog W .any base t v)
    (hW : DataW.Whole enc Tryz.prog Tryz.f4.params.toList Rows.cellBackSpec.vars false W args.toList ds gs before) (hsz : (DataW.weightsEach Tryz.prog (Tryz.f4.params.toList ++ Rows.cellBackSpec.plain.varTypes Tryz.prog) (ds ++ gs)).all (· ≤ reachBytes) = true) (hL : laidMetH Tryz.prog Rows.cellBackRow.laid W) :
    Calls Tryz.prog 4 args W fun e W' => ∃ v, e = .returned v ∧ Rows.cellBackSpec.post enc Tryz.prog Tryz.f4 false true false false W args v W' := by
  have hU := tabs hL
  have hP := powW hL
  have hBt := bitW hL
  have hE := errW hL
  have hW' := hW
  obtain ⟨p, q, hA0, hV, rfl, hfz, hnd⟩ := hW
  have hA : DataW.TrodAll enc Tryz.prog W 0 (fun _ => true) true Tryz.f4.params.toList args.toList ds p := hA0
  rw [Tryz.params4] at hA hval hsz
  obtain ⟨v0, vs0, d0, ds0, p0, q0, hargs, rfl, rfl, h0, r0⟩ := trodAll_cons hA
  obtain ⟨v1, vs1, d1, ds1, p1, q1, rfl, rfl, rfl, h1, r1⟩ := trodAll_cons r0
  obtain ⟨v2, vs2, d2, ds2, p2, q2, rfl, rfl, rfl, h2, r2⟩ := trodAll_cons r1
  obtain ⟨rfl, rfl, rfl⟩ := trodAll_nil r2
  obtain rfl : args = #[v0, v1, v2] := by cases args; simp_all
  obtain ⟨rfl, rfl⟩ := trodVars_none hV
  obtain ⟨a0, rfl, rfl, rfl, w0⟩ := open_int Tryz.underlying3 (hval 0 3 _ rfl rfl) h0
  have k1 := h1
  have lt1 : ∀ x ∈ p1, x.block < W.heap.size := by obtain ⟨m, hm⟩ := k1; exact DataW.trod_lt m _ _ _ hm
  obtain ⟨n1, s1, rfl, w1⟩ := RowA.open_cell (hval 1 24 _ rfl rfl) h1
  have k2 := h2
  have lt2 : ∀ x ∈ p2, x.block < W.heap.size := by obtain ⟨m, hm⟩ := k2; exact DataW.trod_lt m _ _ _ hm
  obtain ⟨zs2, hl2, rfl, hw2⟩ := RowA.open_arr_ints Tryz.underlying36 Tryz.underlying2 (by kernel_rfl) (by kernel_rfl) (hval 2 36 _ rfl rfl) h2
  obtain ⟨a2_0, a2_1, rfl⟩ := RowA.arr2 hl2
  have w2_0 : (Lit.int .i64 a2_0).wf = true := hw2 _ (by simp)
  have w2_1 : (Lit.int .i64 a2_1).wf = true := hw2 _ (by simp)
  clear hA0 hsz
  refine (Tx.back_calls a0 n1 a2_0 a2_1 s1 W hP hBt hU hE w1.1 w1.2 (Tx.wf_i64 w2_0) (Tx.wf_i64 w2_1)).mono fun e W' ⟨he, bel⟩ => ?_
  subst he
  exact ⟨_, rfl, _, _, _, [], _, [], hW', trodAll_mk1 (shut_bool Tryz.underlying4 _), (trodAll_cons_mk (shut_int Tryz.underlying3 w0) (trodAll_cons_mk (Below.trod laidOut (by kernel_rfl) (of_decide_eq_true (by kernel_rfl)) k1 bel lt1) (trodAll_cons_mk (Below.trod laidOut (by kernel_rfl) (of_decide_eq_true (by kernel_rfl)) k2 bel lt2) trodAll_mk0))), rfl, bel.frame _, fun h => by cases h⟩
theorem lifted (os : Os) (started : os.Started) (H : Type) (enc : TypeId × Value → H) (F : Stop.Interp) :
    ReturnsInHanded {} Tryz.checked os 4 .any ((OpenSpec.ofChange Rows.cellBackSpec).preRow enc Tryz.prog Tryz.f4 Rows.cellBackRow.domain false Rows.cellBackRow.laid) (((OpenSpec.ofChange Rows.cellBackSpec).at F).post enc Tryz.prog Tryz.f4 false true false false) := by
  obtain ⟨places, hx⟩ := reads os enc
  refine returnsInHanded_of_row (C := Tryz.checked) (s := OpenSpec.ofChange Rows.cellBackSpec) own started (by kernel_rfl) Tryz.func4
    (witness_row_at (enc := enc) (C := Tryz.checked) false (laidWorld os) #[Value.int .i64 0, Value.agg #[.int .u64 0, .string ⟨#[]⟩], Value.agg #[.int .i64 0, .int .i64 0]] rfl (by kernel_rfl) (by kernel_rfl) (by kernel_rfl)
      (OpenSpec.preRow_of_cond 8 hx (by kernel_rfl) (fun k hk => by cases hk) (by kernel_rfl) (laid_met os))) ?_
  intro W base args ds gs before hval hW _ hcnd hsz hL hS _
  exact contract H enc W base args ds gs before hval hW hsz hL
end Go.Proofs.YtciolchdihlgfaaGreatDoor.cellBack
