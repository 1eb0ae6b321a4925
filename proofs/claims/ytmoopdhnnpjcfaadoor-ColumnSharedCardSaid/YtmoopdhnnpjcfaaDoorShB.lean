import Derived.Test.YtmoopdhnnpjcfaaDoorSh
/-! ColumnShared: the call, of any input. -/
namespace Go.Proofs.YtmoopdhnnpjcfaaDoor.Sh
open Go.RowKit Go.Proofs.YtmoopdhnnpjcfaaDoorW.PrintWords Go.Proofs.YtmoopdhnnpjcfaaDoorW.PrintLast Go.Proofs.YtmoopdhnnpjcfaaDoorW.PrintMore Go.Proofs.YtmoopdhnnpjcfaaDoor.Wire Go.Proofs.YtmoopdhnnpjcfaaDoor.PCo Go.Proofs.YtmoopdhnnpjcfaaDoor.CoG Go.Proofs.YtmoopdhnnpjcfaaDoor.Rd Go.Proofs.YtmoopdhnnpjcfaaDoor.Co
set_option linter.unusedVariables false
set_option linter.unusedSimpArgs false
set_option maxRecDepth 100000
set_option maxHeartbeats 4000000 in
theorem shared_big (a b : ByteArray) (n0 n1 : Int) (w : World) (hU : UtfW w) (h : 1000 < a.size ∨ 1000 < b.size) (ha : a.size ≤ 9223372036854775807) (hb : b.size ≤ 9223372036854775807) : Calls Tryd.prog 9 #[.string a, .string b, .agg #[.int .i64 n0, .int .i64 n1]] w fun e w' => e = .returned (.bool true) ∧ Below w.heap.size w w' := by
  have b0 := below_alloc (Below.refl w.heap.size w) (.cells #[.int .i64 n0, .int .i64 n1] 54)
  have HB := Aside0.mk b0
  have HU := Aside0.mk (hU.below b0)
  clear hU b0
  by_cases h1 : 1000 < a.size
  · have t1 : decide ((1000 : Int) < (a.size : Int)) = true := decide_eq_true (by omega)
    have t2 : decide (1000 < a.size) = true := decide_eq_true h1
    clear h
    go_enter Tryd.func9, Tryd.ntmps9
    go_wp2_with fail
    refine (alive_calls _ HU.out).mono ?_
    rintro e w1 ⟨rfl, b1⟩
    go_wp2
    go_ret
    exact ⟨rfl, below_step HB.out b1⟩
  · have t1 : decide ((1000 : Int) < (a.size : Int)) = false := decide_eq_false (by omega)
    have t2 : decide (1000 < a.size) = false := decide_eq_false h1
    have t3 : decide ((1000 : Int) < (b.size : Int)) = true := decide_eq_true (by omega)
    have t4 : decide (1000 < b.size) = true := decide_eq_true (by omega)
    clear h
    go_enter Tryd.func9, Tryd.ntmps9
    go_wp2_with fail
    refine (alive_calls _ HU.out).mono ?_
    rintro e w1 ⟨rfl, b1⟩
    go_wp2
    go_ret
    exact ⟨rfl, below_step HB.out b1⟩
theorem law_calls (a b : ByteArray) (n0 n1 : Int) (w : World) (hU : UtfW w) (ha : a.size ≤ 9223372036854775807) (hb : b.size ≤ 9223372036854775807) : Calls Tryd.prog 9 #[.string a, .string b, .agg #[.int .i64 n0, .int .i64 n1]] w fun e w' => e = .returned (.bool true) ∧ Below w.heap.size w w' := by
  by_cases h : 1000 < a.size ∨ 1000 < b.size
  · exact shared_big a b n0 n1 w hU h ha hb
  · exact shared_small a b n0 n1 w hU (by omega) (by omega)
end Go.Proofs.YtmoopdhnnpjcfaaDoor.Sh
