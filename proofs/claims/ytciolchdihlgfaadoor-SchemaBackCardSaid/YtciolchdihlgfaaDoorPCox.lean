-- WRITTEN by a program of this session's own (wip/gen/mkprint.py), over the kit's print: not printed by print.sh itself
import Derived.Test.YtciolchdihlgfaaDoorProg
import Derived.Lib.SlBytesConst
import Derived.Outline
import Derived.Laws.BitsAllLaws
import Derived.Laws.Externs
import Derived.Below
import Derived.Deep.Draws
import Derived.Deep.AppendLies
import Derived.Maps.AppendAt
import Derived.OwnWalk
import Derived.Laws.BytesArg
import Derived.Laws.MakeOwn
import Derived.Laws.OwnMore
import Derived.Deep.OwnRows
import Derived.Tactics
import Derived.Lib.ConvBytes
import Derived.Laws.Slices
import Derived.WalkKit
import Derived.KernelRfl
import Derived.RowKit3
import Derived.Deep.LoopGhost
import Derived.Deep.QuietTactic
import Derived.BigQuiet
import Derived.WideLaws
import Derived.Deep.DeepCutAuto
import Derived.Deep.CutBlock
import Derived.Deep.RegionHeld3
import Derived.Laws.Rows
import Derived.Lib.AppendStr
import Derived.ArgAppend
import Derived.Laws.IdiomCopy
import Derived.OrdersHeld
import Derived.Laws.BitsLemmas
import Derived.RowKit
import Derived.Test.YtciolchdihlgfaaDoorUt
import Derived.Test.YtciolchdihlgfaaDoorQTail
import Derived.Test.YtciolchdihlgfaaDoorWWords
import Derived.Test.YtciolchdihlgfaaDoorWLast
import Derived.Test.YtciolchdihlgfaaDoorWTab
import Derived.Test.YtciolchdihlgfaaDoorWFour
import Derived.Test.YtciolchdihlgfaaDoorWQPut
import Derived.Test.YtciolchdihlgfaaDoorWApart
import Derived.Test.YtciolchdihlgfaaDoorWArr
import Derived.Test.YtciolchdihlgfaaDoorWZeros
import Derived.Test.YtciolchdihlgfaaDoorWFoot
import Derived.Test.YtciolchdihlgfaaDoorWKept
import Derived.Test.YtciolchdihlgfaaDoorWShare
import Derived.Test.YtciolchdihlgfaaDoorWN
import Derived.Test.YtciolchdihlgfaaDoorWFootNe
import Derived.Test.YtciolchdihlgfaaDoorWAt
import Derived.Test.YtciolchdihlgfaaDoorWEqStruct
import Derived.Test.YtciolchdihlgfaaDoorWRepsOne
import Derived.Test.YtciolchdihlgfaaDoorWInv
import Derived.Test.YtciolchdihlgfaaDoorWInvWords
import Derived.Test.YtciolchdihlgfaaDoorWGuard
import Derived.Test.YtciolchdihlgfaaDoorWNEv
import Derived.Test.YtciolchdihlgfaaDoorWMore
namespace Go.Proofs.YtciolchdihlgfaaDoor.PCo
open Go.RowKit Go.Proofs.YtciolchdihlgfaaDoorW.PrintWords Go.Proofs.YtciolchdihlgfaaDoorW.PrintLast Go.Proofs.YtciolchdihlgfaaDoorW.PrintMore
attribute [local go_sem] max2_int min2_int max_two min_two max_three min_three max_four min_four   -- for this text's walks alone
set_option linter.unusedVariables false
set_option linter.unusedSimpArgs false



def errW : Option Int → Value
  | none => .nilIface
  | some c => .iface 0 (.int .i64 c)
theorem errW_none : errW none = .nilIface := rfl
theorem errW_some (c : Int) : errW (some c) = .iface 0 (.int .i64 c) := rfl

theorem info9 : (Tryd.prog.info? 9).map (fun i => (i.zero, i.size, i.bytes)) = some (some (.string ⟨#[]⟩), 1, 16) := by kernel_rfl
-- the values' own types

end Go.Proofs.YtciolchdihlgfaaDoor.PCo
namespace Go.Proofs.YtciolchdihlgfaaDoor.PCo
open Go.RowKit Go.Proofs.YtciolchdihlgfaaDoorW.PrintWords Go.Proofs.YtciolchdihlgfaaDoorW.PrintLast Go.Proofs.YtciolchdihlgfaaDoorW.PrintMore
attribute [local go_sem] max2_int min2_int max_two min_two max_three min_three max_four min_four   -- for this text's walks alone
set_option linter.unusedVariables false
set_option linter.unusedSimpArgs false

/-! ### deckleref04_Names: function 32 -/
def deckleref04_Names.f  : Option (List ByteArray) := some (([(⟨#[105, 110, 116]⟩ : ByteArray), (⟨#[117, 105, 110, 116]⟩ : ByteArray), (⟨#[98, 111, 111, 108]⟩ : ByteArray), (⟨#[98, 121, 116, 101, 115]⟩ : ByteArray), (⟨#[116, 101, 120, 116]⟩ : ByteArray), (⟨#[102, 108, 111, 97, 116]⟩ : ByteArray)] : List ByteArray))
set_option maxHeartbeats 8000000 in
set_option maxRecDepth 100000 in
theorem deckleref04_Names.calls  (r : List ByteArray) (w : World) (h : deckleref04_Names.f  = some r) :
    Calls Tryd.prog 32 #[] w fun e w' => ∃ v0_ : Value, e = .returned (v0_) ∧ Kd.R Kd.string 9 w' w.heap.size (fun _ => True) v0_ r ∧ Below w.heap.size w w' := by
  have HB := Aside0.mk (Below.refl w.heap.size w)
  have H : (some (([(⟨#[105, 110, 116]⟩ : ByteArray), (⟨#[117, 105, 110, 116]⟩ : ByteArray), (⟨#[98, 111, 111, 108]⟩ : ByteArray), (⟨#[98, 121, 116, 101, 115]⟩ : ByteArray), (⟨#[116, 101, 120, 116]⟩ : ByteArray), (⟨#[102, 108, 111, 97, 116]⟩ : ByteArray)] : List ByteArray))) = some r := h
  clear h
  obtain ⟨y101, hy101⟩ : ∃ y_ : List ByteArray, y_ = (([(⟨#[105, 110, 116]⟩ : ByteArray), (⟨#[117, 105, 110, 116]⟩ : ByteArray), (⟨#[98, 111, 111, 108]⟩ : ByteArray), (⟨#[98, 121, 116, 101, 115]⟩ : ByteArray), (⟨#[116, 101, 120, 116]⟩ : ByteArray), (⟨#[102, 108, 111, 97, 116]⟩ : ByteArray)] : List ByteArray)) := ⟨_, rfl⟩
  replace H : (some y101) = some r := by first | (rw [hy101]; with_reducible exact H) | (have H2_ := (Option.bind_some _ _).symm.trans H; rw [hy101]; with_reducible exact H2_) | (have H2_ := (Option.bind_some _ _).symm.trans H; with_reducible exact H2_) | with_reducible exact H | (rw [hy101]; exact H) | exact H
  have Ny101 := Aside0.mk hy101
  clear hy101
  obtain rfl := Option.some.inj H
  go_enter Tryd.func32, Tryd.ntmps32
  go_wp2_with (first | ((with_reducible refine gate_dst (N := 1) rfl ?_); refine Kd.R_lit Kd.string _ 9 ?hg (N := 1) ?hd (xs := ([(⟨#[105, 110, 116]⟩ : ByteArray), (⟨#[117, 105, 110, 116]⟩ : ByteArray), (⟨#[98, 111, 111, 108]⟩ : ByteArray), (⟨#[98, 121, 116, 101, 115]⟩ : ByteArray), (⟨#[116, 101, 120, 116]⟩ : ByteArray), (⟨#[102, 108, 111, 97, 116]⟩ : ByteArray)] : List ByteArray)) (inner := [.string (⟨#[105, 110, 116]⟩ : ByteArray), .string (⟨#[117, 105, 110, 116]⟩ : ByteArray), .string (⟨#[98, 111, 111, 108]⟩ : ByteArray), .string (⟨#[98, 121, 116, 101, 115]⟩ : ByteArray), .string (⟨#[116, 101, 120, 116]⟩ : ByteArray), .string (⟨#[102, 108, 111, 97, 116]⟩ : ByteArray)]) (ok := fun _ => True) (okp := fun _ => True) ?hr ?hp (fun _ hk => hk) trivial (Below.refl _ _) (Nat.le_refl _) (by simp) ?_; (case hd => rfl); (case hg => rfl); (case hr => first | (go_simp; done) | (go_simp; rfl)); (case hp => exact (Reps.one (show Kd.M Kd.string _ _ _ (⟨#[105, 110, 116]⟩ : ByteArray) [.string (⟨#[105, 110, 116]⟩ : ByteArray)] from rfl) (Reps.one (show Kd.M Kd.string _ _ _ (⟨#[117, 105, 110, 116]⟩ : ByteArray) [.string (⟨#[117, 105, 110, 116]⟩ : ByteArray)] from rfl) (Reps.one (show Kd.M Kd.string _ _ _ (⟨#[98, 111, 111, 108]⟩ : ByteArray) [.string (⟨#[98, 111, 111, 108]⟩ : ByteArray)] from rfl) (Reps.one (show Kd.M Kd.string _ _ _ (⟨#[98, 121, 116, 101, 115]⟩ : ByteArray) [.string (⟨#[98, 121, 116, 101, 115]⟩ : ByteArray)] from rfl) (Reps.one (show Kd.M Kd.string _ _ _ (⟨#[116, 101, 120, 116]⟩ : ByteArray) [.string (⟨#[116, 101, 120, 116]⟩ : ByteArray)] from rfl) (Reps.one (show Kd.M Kd.string _ _ _ (⟨#[102, 108, 111, 97, 116]⟩ : ByteArray) [.string (⟨#[102, 108, 111, 97, 116]⟩ : ByteArray)] from rfl) (Reps.none _ _)))))))); intro v102 w1 ho2 hb hg_ hnew_; clear hg_ hnew_; (first | rw [← Ny101.out] at ho2 | (simp only [Int.reduceToNat] at ho2; rw [← Ny101.out] at ho2)); have n0_ := Aside0.mk (Kd.R_lower ho2 (below_size (by repeat (first | (with_reducible first | exact HB.out | apply below_alloc | apply pw_below_drewN | apply below_drew1) | exact HB.out)))); have n1_ := Aside0.mk (below_step (by repeat (first | (with_reducible first | exact HB.out | apply below_alloc | apply pw_below_drewN | apply below_drew1) | exact HB.out)) hb); clear HB; have HO103 := n0_; have HB := n1_; clear n0_ n1_; clear hb ho2))
  go_ret
  exact ⟨_, by first | rfl | (simp [errW_none, errW_some] <;> rfl) | (simp [*, errW_none, errW_some] <;> rfl), by (with_reducible repeat (first | apply Kd.R_alloc | apply Kd.R_drewN | apply Kd.R_drew)); exact HO103.out, by repeat (first | (with_reducible first | exact HB.out | apply below_alloc | apply pw_below_drewN | apply below_drew1) | exact HB.out)⟩

end Go.Proofs.YtciolchdihlgfaaDoor.PCo
