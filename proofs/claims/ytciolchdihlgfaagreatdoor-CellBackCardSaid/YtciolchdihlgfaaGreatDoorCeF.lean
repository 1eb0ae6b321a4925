import Derived.Test.YtciolchdihlgfaaGreatDoorCeH
import Derived.Test.YtciolchdihlgfaaGreatDoorFlo
import Derived.Laws.Externs
import Derived.Laws.FloatArith
/-! Cell: the cells of floats; the document's examples. -/
namespace Go.Proofs.YtciolchdihlgfaaGreatDoor.Ce
open Go.RowKit Go.Proofs.YtciolchdihlgfaaGreatDoorW.PrintWords Go.Proofs.YtciolchdihlgfaaGreatDoorW.PrintLast Go.Proofs.YtciolchdihlgfaaGreatDoorW.PrintMore Go.Proofs.YtciolchdihlgfaaGreatDoor.Wire Go.Proofs.YtciolchdihlgfaaGreatDoor.PCo Go.Proofs.YtciolchdihlgfaaGreatDoor.Co
set_option linter.unusedVariables false
set_option linter.unusedSimpArgs false
set_option maxRecDepth 100000
abbrev e0 : ByteArray := ⟨#[]⟩
theorem bits_run (b : Nat) (w : World) : (callFunc 108 #[.float .f64 b]).run Tryz.prog w = .ok (.value (.int .u64 (b : Int))) w := by
  rw [run_callFunc_extern (e := Extern.MathFloatBits.float64bits) Tryz.func108 (by kernel_rfl) (by kernel_rfl) (by kernel_rfl) (by kernel_rfl)]
  rfl
theorem frombits_run (n : Int) (w : World) : (callFunc 107 #[.int .u64 n]).run Tryz.prog w = .ok (.value (.float .f64 n.toNat)) w := by
  rw [run_callFunc_extern (e := Extern.MathFloatBits.float64frombits) Tryz.func107 (by kernel_rfl) (by kernel_rfl) (by kernel_rfl) (by kernel_rfl)]
  rfl
set_option maxHeartbeats 4000000 in
theorem float_calls (b : Nat) (w : World) : Calls Tryz.prog 63 #[.float .f64 b] w fun e w' => e = .returned (.agg #[.int .u64 (b : Int), .string e0]) ∧ Below w.heap.size w w' := by
  have h1 := fun w => bits_run b w
  go_enter Tryz.func63, Tryz.ntmps63
  go_wp2
  refine bodyPost_ret (results_cell_row rfl _ _ w.heap.size 24 #[.int .u64 (b : Int), .string e0] (0, 0) _ rfl (heap_alloc_new w _) Tryz.underlying24 rfl (by kernel_rfl)) rfl ?_
  exact ⟨rfl, below_alloc (Below.refl _ _) _⟩
set_option maxHeartbeats 4000000 in
theorem copysign_calls (w : World) : Calls Tryz.prog 62 #[.float .f64 0, .float .f64 13830554455654793216] w fun e w' => e = .returned (.float .f64 9223372036854775808) ∧ Below w.heap.size w w' := by
  have h1 := fun w => bits_run 0 w
  have h2 := fun w => bits_run 13830554455654793216 w
  have h3 : ∀ w, (callFunc 107 #[.int .u64 (bits .or .u64 (bits .andNot .u64 0 9223372036854775808) (bits .and .u64 13830554455654793216 9223372036854775808))]).run Tryz.prog w = .ok (.value (.float .f64 9223372036854775808)) w := fun w => by
    rw [show bits .or .u64 (bits .andNot .u64 0 9223372036854775808) (bits .and .u64 13830554455654793216 9223372036854775808) = 9223372036854775808 by decide +kernel]
    exact frombits_run 9223372036854775808 w
  go_enter Tryz.func62, Tryz.ntmps62
  go_wp2
  go_ret
  exact ⟨rfl, Below.refl _ _⟩
set_option maxHeartbeats 4000000 in
theorem inf_calls (w : World) : Calls Tryz.prog 64 #[.int .i64 1] w fun e w' => e = .returned (.float .f64 9218868437227405312) ∧ Below w.heap.size w w' := by
  have h3 : ∀ w, (callFunc 107 #[.int .u64 9218868437227405312]).run Tryz.prog w = .ok (.value (.float .f64 9218868437227405312)) w := fun w => frombits_run 9218868437227405312 w
  go_enter Tryz.func64, Tryz.ntmps64
  go_wp2
  go_ret
  exact ⟨rfl, Below.refl _ _⟩
set_option maxHeartbeats 4000000 in
theorem written_4 (n : Int) (s : ByteArray) (hs : s.size ≤ 1000000) (w : World) : Calls Tryz.prog 65 #[.int .i64 4, .agg #[.int .u64 n, .string s]] w fun e w' => e = .returned (.string (hexv s)) ∧ Below w.heap.size w w' := by
  have hb0 := below_alloc (Below.refl w.heap.size w) (.cells #[.int .u64 n, .string s] 24)
  have HB0 := Aside0.mk hb0
  have HH := Aside0.mk (fun W => hex_calls s hs W)
  clear hb0 hs
  go_enter Tryz.func65, Tryz.ntmps65
  go_wp2_with fail
  refine (HH.out _).mono ?_
  rintro e w2 ⟨rfl, hb⟩
  have hfin := below_step HB0.out hb
  go_wp2_with fail
  go_ret
  exact ⟨rfl, hfin⟩
set_option maxHeartbeats 4000000 in
theorem text_4 (s : ByteArray) (hs : s.size ≤ 1000000) (hc : chk 4 0 s = 0) (w : World) (hU : UtfW w) : Calls Tryz.prog 19 #[.int .i64 4, .agg #[.int .u64 0, .string s]] w fun e w' => e = .returned (.tuple #[.string (hexv s), .int .i64 0]) ∧ Below w.heap.size w w' := by
  have hb0 := below_alloc (Below.refl w.heap.size w) (.cells #[.int .u64 0, .string s] 24)
  have HB0 := Aside0.mk hb0
  have HX0 := Aside0.mk (heap_alloc_new w (.cells #[.int .u64 0, .string s] 24))
  have HC := Aside0.mk (check_calls 4 0 s _ (by omega) (hU.below hb0))
  rw [hc] at HC
  have HH := Aside0.mk (fun W => written_4 0 s hs W)
  clear hb0 hs hc hU
  go_enter Tryz.func19, Tryz.ntmps19
  go_wp2_with fail
  refine (HC.out).mono ?_
  rintro e w2 ⟨rfl, hb⟩
  have HB2 := Aside0.mk (below_step HB0.out hb)
  have f0 : w2.cell? ⟨w.heap.size, 0, none⟩ = some (.int .u64 0) := (blk_cell (blk_below HX0.out hb) 0).trans rfl
  have f1 : w2.cell? ⟨w.heap.size, 1, none⟩ = some (.string s) := (blk_cell (blk_below HX0.out hb) 1).trans rfl
  clear hb HC
  go_wp2_with fail
  clear f0 f1
  refine (HH.out _).mono ?_
  rintro e w3 ⟨rfl, hb⟩
  have hfin := below_step HB2.out hb
  go_wp2_with fail
  go_ret2
  exact ⟨rfl, hfin⟩
set_option maxHeartbeats 16000000 in
theorem alive_calls (w : World) (hU : UtfW w) : Calls Tryz.prog 18 #[] w fun e w' => e = .returned (.bool true) ∧ Below w.heap.size w w' := by
  have HT := Aside0.mk (fun (W : World) (hb : Below w.heap.size w W) => text_4 ⟨#[195, 164]⟩ (by decide) (by decide +kernel) W (hU.below hb))
  have HC1 := Aside0.mk (fun (W : World) (hb : Below w.heap.size w W) => compare_calls 5 9223372036854775808 0 e0 e0 W (by decide) (by decide) (by decide) (by decide) (hU.below hb))
  have HC2 := Aside0.mk (fun (W : World) (hb : Below w.heap.size w W) => compare_calls 5 9221120237041090561 9218868437227405312 e0 e0 W (by decide) (by decide) (by decide) (by decide) (hU.below hb))
  have v1 : cmpv 5 9223372036854775808 e0 0 e0 = -1 := by decide +kernel
  have v2 : cmpv 5 9221120237041090561 e0 9218868437227405312 e0 = 1 := by decide +kernel
  have v3 : hexv ⟨#[195, 164]⟩ = ⟨#[99, 51, 97, 52]⟩ := by decide +kernel
  rw [v1] at HC1
  rw [v2] at HC2
  rw [v3] at HT
  clear hU v1 v2 v3
  go_enter Tryz.func18, Tryz.ntmps18
  go_wp2_with fail
  refine (copysign_calls _).mono ?_
  rintro e w1 ⟨rfl, hb⟩
  have HB := Aside0.mk hb
  clear hb
  go_wp2_with fail
  refine (HT.out _ HB.out).mono ?_
  rintro e w2 ⟨rfl, hb⟩
  have HB2 := Aside0.mk (below_step HB.out hb)
  clear hb HB HT
  go_wp2_with fail
  refine (float_calls _ _).mono ?_
  rintro e w3 ⟨rfl, hb⟩
  have HB := Aside0.mk (below_step HB2.out hb)
  clear hb HB2
  go_wp2_with fail
  refine (float_calls _ _).mono ?_
  rintro e w4 ⟨rfl, hb⟩
  have HB2 := Aside0.mk (below_step HB.out hb)
  clear hb HB
  go_wp2_with fail
  refine (HC1.out _ HB2.out).mono ?_
  rintro e w5 ⟨rfl, hb⟩
  have HB := Aside0.mk (below_step HB2.out hb)
  clear hb HB2 HC1
  go_wp2_with fail
  refine (inf_calls _).mono ?_
  rintro e w6 ⟨rfl, hb⟩
  have HB2 := Aside0.mk (below_step HB.out hb)
  clear hb HB
  go_wp2_with fail
  refine (float_calls _ _).mono ?_
  rintro e w7 ⟨rfl, hb⟩
  have HB := Aside0.mk (below_step HB2.out hb)
  clear hb HB2
  go_wp2_with fail
  refine (HC2.out _ HB.out).mono ?_
  rintro e w8 ⟨rfl, hb⟩
  have HB2 := Aside0.mk (below_step HB.out hb)
  clear hb HB HC2
  go_wp2_with fail
  go_ret
  exact ⟨rfl, HB2.out⟩
end Go.Proofs.YtciolchdihlgfaaGreatDoor.Ce
