import Derived.Test.YtciolchdihlgfaaGreatDoorPCox
import Derived.Test.YtciolchdihlgfaaGreatDoorUt
import Derived.Test.YtciolchdihlgfaaGreatDoorWireSpec2
import Derived.Deep.QuietTactic
import Derived.BigQuiet
import Derived.Outline
import Derived.Deep.LoopGhost
/-! Cell: what is wrong with a cell; the kinds. -/
namespace Go.Proofs.YtciolchdihlgfaaGreatDoor.Co
open Go.RowKit Go.Proofs.YtciolchdihlgfaaGreatDoorW.PrintWords Go.Proofs.YtciolchdihlgfaaGreatDoorW.PrintLast Go.Proofs.YtciolchdihlgfaaGreatDoorW.PrintMore Go.Proofs.YtciolchdihlgfaaGreatDoor.Wire Go.Proofs.YtciolchdihlgfaaGreatDoor.PCo
set_option linter.unusedVariables false
set_option linter.unusedSimpArgs false
set_option maxRecDepth 100000
def chk (k num : Int) (s : ByteArray) : Int :=
  if k < 0 ∨ 5 < k then 10 else if k = 3 ∨ k = 4 then (if num ≠ 0 then 11 else if k = 4 ∧ Lib.validD s.data.toList = false then 11 else if 256 < s.size then 7 else 0)
  else (if s.size ≠ 0 then 11 else if k = 2 ∧ 1 < num then 11 else 0)
theorem valid_calls (s : ByteArray) (hs : s.size ≤ 9223372036854775807) (w : World) (hU : UtfW w) : Calls Tryz.prog 76 #[.string s] w fun e w' => e = .returned (.bool (Lib.validD s.data.toList)) ∧ Below w.heap.size w w' := Any.utf8_ValidString Tryz.laysValid s w hs hU
set_option maxHeartbeats 4000000 in
theorem check_other (k num : Int) (s : ByteArray) (w : World) (hk : k < 0 ∨ 5 < k) :
    Calls Tryz.prog 24 #[.int .i64 k, .agg #[.int .u64 num, .string s]] w fun e w' => e = .returned (.int .i64 10) ∧ Below w.heap.size w w' := by
  rcases hk with hk | hk
  · have t1 : decide (k > -1) = false := decide_eq_false (by omega)
    have t2 : decide (-1 < k) = false := decide_eq_false (by omega)
    clear hk
    go_enter Tryz.func24, Tryz.ntmps24
    go_wp2
    go_ret
    exact ⟨rfl, below_alloc (Below.refl _ _) _⟩
  · have t1 : decide (k > -1) = true := decide_eq_true (by omega)
    have t2 : decide (-1 < k) = true := decide_eq_true (by omega)
    have t3 : decide (k ≤ 5) = false := decide_eq_false (by omega)
    clear hk
    go_enter Tryz.func24, Tryz.ntmps24
    go_wp2
    go_ret
    exact ⟨rfl, below_alloc (Below.refl _ _) _⟩
end Go.Proofs.YtciolchdihlgfaaGreatDoor.Co
/-! Column: cell.Check, kind by kind. -/
namespace Go.Proofs.YtciolchdihlgfaaGreatDoor.Co
open Go.RowKit Go.Proofs.YtciolchdihlgfaaGreatDoorW.PrintWords Go.Proofs.YtciolchdihlgfaaGreatDoorW.PrintLast Go.Proofs.YtciolchdihlgfaaGreatDoorW.PrintMore Go.Proofs.YtciolchdihlgfaaGreatDoor.Wire Go.Proofs.YtciolchdihlgfaaGreatDoor.PCo
set_option linter.unusedVariables false
set_option linter.unusedSimpArgs false
set_option maxRecDepth 100000
theorem size_zero {s : ByteArray} (h : s.size = 0) : s = ⟨#[]⟩ := by
  obtain ⟨d⟩ := s
  congr 1
  exact Array.eq_empty_of_size_eq_zero h
theorem ne_empty {s : ByteArray} (h : s.size ≠ 0) : s.toList ≠ [] := by
  rw [str_toList]
  intro e
  have := congrArg List.length e
  rw [data_length] at this
  exact h this
theorem kindly4 (w : World) : Calls Tryz.prog 66 #[.int .i64 4] w fun e w' => e = .returned (.bool true) ∧ w = w' := by
  go_enter Tryz.func66, Tryz.ntmps66
  go_wp2
  go_ret
  exact ⟨rfl, rfl⟩
theorem texty4 (w : World) : Calls Tryz.prog 75 #[.int .i64 4] w fun e w' => e = .returned (.bool true) ∧ w = w' := by
  go_enter Tryz.func75, Tryz.ntmps75
  go_wp2
  go_ret
  exact ⟨rfl, rfl⟩
set_option maxHeartbeats 4000000 in
theorem check_0 (num : Int) (s : ByteArray) (w : World) (hs : s.size ≤ 9223372036854775807) (hU : UtfW w) :
    Calls Tryz.prog 24 #[.int .i64 0, .agg #[.int .u64 num, .string s]] w fun e w' => e = .returned (.int .i64 (chk 0 num s)) ∧ Below w.heap.size w w' := by
  have HU := Aside0.mk (show UtfW (w.alloc (.cells #[.int .u64 num, .string s] 24)) from hU.below (below_alloc (Below.refl _ _) _))
  clear hU
  by_cases h0 : s.size = 0
  · obtain rfl := size_zero h0
    rw [show chk 0 num ⟨#[]⟩ = 0 from by unfold chk; simp [h0]]
    clear h0
    go_enter Tryz.func24, Tryz.ntmps24
    go_wp2
    go_ret
    exact ⟨by first | rfl | simp, below_alloc (Below.refl _ _) _⟩
  · have t1 : (s.toList != ([] : List UInt8)) = true := bne_iff_ne.mpr (ne_empty h0)
    have t2 : (s.toList == ([] : List UInt8)) = false := beq_eq_false_iff_ne.mpr (ne_empty h0)
    have t3 : s.toList.isEmpty = false := by cases h : s.toList with | nil => exact absurd h (ne_empty h0) | cons => rfl
    rw [show chk 0 num s = 11 from by unfold chk; simp [h0]]
    clear h0
    go_enter Tryz.func24, Tryz.ntmps24
    go_wp2
    go_ret
    exact ⟨by first | rfl | simp, below_alloc (Below.refl _ _) _⟩
set_option maxHeartbeats 4000000 in
theorem check_1 (num : Int) (s : ByteArray) (w : World) (hs : s.size ≤ 9223372036854775807) (hU : UtfW w) :
    Calls Tryz.prog 24 #[.int .i64 1, .agg #[.int .u64 num, .string s]] w fun e w' => e = .returned (.int .i64 (chk 1 num s)) ∧ Below w.heap.size w w' := by
  have HU := Aside0.mk (show UtfW (w.alloc (.cells #[.int .u64 num, .string s] 24)) from hU.below (below_alloc (Below.refl _ _) _))
  clear hU
  by_cases h0 : s.size = 0
  · obtain rfl := size_zero h0
    rw [show chk 1 num ⟨#[]⟩ = 0 from by unfold chk; simp [h0]]
    clear h0
    go_enter Tryz.func24, Tryz.ntmps24
    go_wp2
    go_ret
    exact ⟨by first | rfl | simp, below_alloc (Below.refl _ _) _⟩
  · have t1 : (s.toList != ([] : List UInt8)) = true := bne_iff_ne.mpr (ne_empty h0)
    have t2 : (s.toList == ([] : List UInt8)) = false := beq_eq_false_iff_ne.mpr (ne_empty h0)
    have t3 : s.toList.isEmpty = false := by cases h : s.toList with | nil => exact absurd h (ne_empty h0) | cons => rfl
    rw [show chk 1 num s = 11 from by unfold chk; simp [h0]]
    clear h0
    go_enter Tryz.func24, Tryz.ntmps24
    go_wp2
    go_ret
    exact ⟨by first | rfl | simp, below_alloc (Below.refl _ _) _⟩
set_option maxHeartbeats 4000000 in
theorem check_2 (num : Int) (s : ByteArray) (w : World) (hs : s.size ≤ 9223372036854775807) (hU : UtfW w) :
    Calls Tryz.prog 24 #[.int .i64 2, .agg #[.int .u64 num, .string s]] w fun e w' => e = .returned (.int .i64 (chk 2 num s)) ∧ Below w.heap.size w w' := by
  have HU := Aside0.mk (show UtfW (w.alloc (.cells #[.int .u64 num, .string s] 24)) from hU.below (below_alloc (Below.refl _ _) _))
  clear hU
  by_cases h0 : s.size = 0
  · obtain rfl := size_zero h0
    by_cases h1 : 1 < num
    · have t1 : decide (1 < num) = true := decide_eq_true (by omega)
      rw [show chk 2 num ⟨#[]⟩ = 11 from by unfold chk; simp [h1, h0]]
      clear h1 h0
      go_enter Tryz.func24, Tryz.ntmps24
      go_wp2
      go_ret
      exact ⟨by first | rfl | simp, below_alloc (Below.refl _ _) _⟩
    · have t1 : decide (1 < num) = false := decide_eq_false (by omega)
      rw [show chk 2 num ⟨#[]⟩ = 0 from by unfold chk; simp [h1, h0]]
      clear h1 h0
      go_enter Tryz.func24, Tryz.ntmps24
      go_wp2
      go_ret
      exact ⟨by first | rfl | simp, below_alloc (Below.refl _ _) _⟩
  · have t1 : (s.toList != ([] : List UInt8)) = true := bne_iff_ne.mpr (ne_empty h0)
    have t2 : (s.toList == ([] : List UInt8)) = false := beq_eq_false_iff_ne.mpr (ne_empty h0)
    have t3 : s.toList.isEmpty = false := by cases h : s.toList with | nil => exact absurd h (ne_empty h0) | cons => rfl
    rw [show chk 2 num s = 11 from by unfold chk; simp [h0]]
    clear h0
    go_enter Tryz.func24, Tryz.ntmps24
    go_wp2
    go_ret
    exact ⟨by first | rfl | simp, below_alloc (Below.refl _ _) _⟩
set_option maxHeartbeats 4000000 in
theorem check_3 (num : Int) (s : ByteArray) (w : World) (hs : s.size ≤ 9223372036854775807) (hU : UtfW w) :
    Calls Tryz.prog 24 #[.int .i64 3, .agg #[.int .u64 num, .string s]] w fun e w' => e = .returned (.int .i64 (chk 3 num s)) ∧ Below w.heap.size w w' := by
  have HU := Aside0.mk (show UtfW (w.alloc (.cells #[.int .u64 num, .string s] 24)) from hU.below (below_alloc (Below.refl _ _) _))
  clear hU
  by_cases h0 : num = 0
  · subst h0
    by_cases h2 : 256 < s.size
    · have t2 : decide ((256 : Int) < (s.size : Int)) = true := decide_eq_true (by omega)
      rw [show chk 3 0 s = 7 from by unfold chk; simp [h2]]
      clear h2
      go_enter Tryz.func24, Tryz.ntmps24
      go_wp2
      go_ret
      exact ⟨by first | rfl | simp, below_alloc (Below.refl _ _) _⟩
    · have t2 : decide ((256 : Int) < (s.size : Int)) = false := decide_eq_false (by omega)
      rw [show chk 3 0 s = 0 from by unfold chk; simp [h2]]
      clear h2
      go_enter Tryz.func24, Tryz.ntmps24
      go_wp2
      go_ret
      exact ⟨by first | rfl | simp, below_alloc (Below.refl _ _) _⟩
  · have t1 : (num != 0) = true := bne_iff_ne.mpr h0
    have t2 : (num == 0) = false := beq_eq_false_iff_ne.mpr h0
    rw [show chk 3 num s = 11 from by unfold chk; simp [h0]]
    clear h0
    go_enter Tryz.func24, Tryz.ntmps24
    go_wp2
    go_ret
    exact ⟨by first | rfl | simp, below_alloc (Below.refl _ _) _⟩
set_option maxHeartbeats 4000000 in
theorem check_4 (num : Int) (s : ByteArray) (w : World) (hs : s.size ≤ 9223372036854775807) (hU : UtfW w) :
    Calls Tryz.prog 24 #[.int .i64 4, .agg #[.int .u64 num, .string s]] w fun e w' => e = .returned (.int .i64 (chk 4 num s)) ∧ Below w.heap.size w w' := by
  have HU := Aside0.mk (show UtfW (w.alloc (.cells #[.int .u64 num, .string s] 24)) from hU.below (below_alloc (Below.refl _ _) _))
  clear hU
  by_cases h0 : num = 0
  · subst h0
    cases hv : Lib.validD s.data.toList with
    | false =>
      rw [show chk 4 0 s = 11 from by unfold chk; simp [hv]]
      have HV := Aside0.mk (valid_calls s hs _ HU.out)
      rw [hv] at HV
      go_enter Tryz.func24, Tryz.ntmps24
      go_wp2_with (first | (go_at_call 66; refine (kindly4 _).mono ?_; rintro e w' ⟨rfl, rfl⟩) | (go_at_call 75; refine (texty4 _).mono ?_; rintro e w' ⟨rfl, rfl⟩) | (go_at_call 76; refine HV.out.mono ?_; rintro e w1 ⟨rfl, b1⟩; have c1 : w1.cell? ⟨w.heap.size, 1, none⟩ = some (.string s) := (blk_cell (blk_below (heap_alloc_new w _) b1) 1).trans rfl; have HB1 := Aside0.mk (below_step (below_alloc (Below.refl _ _) _) b1); clear b1))
      go_ret
      exact ⟨by first | rfl | simp, HB1.out⟩
    | true =>
      by_cases h2 : 256 < s.size
      · have t2 : decide ((256 : Int) < (s.size : Int)) = true := decide_eq_true (by omega)
        rw [show chk 4 0 s = 7 from by unfold chk; simp [h2, hv]]
        clear h2
        have HV := Aside0.mk (valid_calls s hs _ HU.out)
        rw [hv] at HV
        go_enter Tryz.func24, Tryz.ntmps24
        go_wp2_with (first | (go_at_call 66; refine (kindly4 _).mono ?_; rintro e w' ⟨rfl, rfl⟩) | (go_at_call 75; refine (texty4 _).mono ?_; rintro e w' ⟨rfl, rfl⟩) | (go_at_call 76; refine HV.out.mono ?_; rintro e w1 ⟨rfl, b1⟩; have c1 : w1.cell? ⟨w.heap.size, 1, none⟩ = some (.string s) := (blk_cell (blk_below (heap_alloc_new w _) b1) 1).trans rfl; have HB1 := Aside0.mk (below_step (below_alloc (Below.refl _ _) _) b1); clear b1))
        go_ret
        exact ⟨by first | rfl | simp, HB1.out⟩
      · have t2 : decide ((256 : Int) < (s.size : Int)) = false := decide_eq_false (by omega)
        rw [show chk 4 0 s = 0 from by unfold chk; simp [h2, hv]]
        clear h2
        have HV := Aside0.mk (valid_calls s hs _ HU.out)
        rw [hv] at HV
        go_enter Tryz.func24, Tryz.ntmps24
        go_wp2_with (first | (go_at_call 66; refine (kindly4 _).mono ?_; rintro e w' ⟨rfl, rfl⟩) | (go_at_call 75; refine (texty4 _).mono ?_; rintro e w' ⟨rfl, rfl⟩) | (go_at_call 76; refine HV.out.mono ?_; rintro e w1 ⟨rfl, b1⟩; have c1 : w1.cell? ⟨w.heap.size, 1, none⟩ = some (.string s) := (blk_cell (blk_below (heap_alloc_new w _) b1) 1).trans rfl; have HB1 := Aside0.mk (below_step (below_alloc (Below.refl _ _) _) b1); clear b1))
        go_ret
        exact ⟨by first | rfl | simp, HB1.out⟩
  · have t1 : (num != 0) = true := bne_iff_ne.mpr h0
    have t2 : (num == 0) = false := beq_eq_false_iff_ne.mpr h0
    rw [show chk 4 num s = 11 from by unfold chk; simp [h0]]
    clear h0
    go_enter Tryz.func24, Tryz.ntmps24
    go_wp2
    go_ret
    exact ⟨by first | rfl | simp, below_alloc (Below.refl _ _) _⟩
set_option maxHeartbeats 4000000 in
theorem check_5 (num : Int) (s : ByteArray) (w : World) (hs : s.size ≤ 9223372036854775807) (hU : UtfW w) :
    Calls Tryz.prog 24 #[.int .i64 5, .agg #[.int .u64 num, .string s]] w fun e w' => e = .returned (.int .i64 (chk 5 num s)) ∧ Below w.heap.size w w' := by
  have HU := Aside0.mk (show UtfW (w.alloc (.cells #[.int .u64 num, .string s] 24)) from hU.below (below_alloc (Below.refl _ _) _))
  clear hU
  by_cases h0 : s.size = 0
  · obtain rfl := size_zero h0
    rw [show chk 5 num ⟨#[]⟩ = 0 from by unfold chk; simp [h0]]
    clear h0
    go_enter Tryz.func24, Tryz.ntmps24
    go_wp2
    go_ret
    exact ⟨by first | rfl | simp, below_alloc (Below.refl _ _) _⟩
  · have t1 : (s.toList != ([] : List UInt8)) = true := bne_iff_ne.mpr (ne_empty h0)
    have t2 : (s.toList == ([] : List UInt8)) = false := beq_eq_false_iff_ne.mpr (ne_empty h0)
    have t3 : s.toList.isEmpty = false := by cases h : s.toList with | nil => exact absurd h (ne_empty h0) | cons => rfl
    rw [show chk 5 num s = 11 from by unfold chk; simp [h0]]
    clear h0
    go_enter Tryz.func24, Tryz.ntmps24
    go_wp2
    go_ret
    exact ⟨by first | rfl | simp, below_alloc (Below.refl _ _) _⟩
theorem check_calls (k num : Int) (s : ByteArray) (w : World) (hs : s.size ≤ 9223372036854775807) (hU : UtfW w) :
    Calls Tryz.prog 24 #[.int .i64 k, .agg #[.int .u64 num, .string s]] w fun e w' => e = .returned (.int .i64 (chk k num s)) ∧ Below w.heap.size w w' := by
  by_cases hk : k < 0 ∨ 5 < k
  · rw [show chk k num s = 10 from if_pos hk]
    exact check_other k num s w hk
  · obtain rfl | rfl | rfl | rfl | rfl | rfl : k = 0 ∨ k = 1 ∨ k = 2 ∨ k = 3 ∨ k = 4 ∨ k = 5 := by omega
    · exact check_0 num s w hs hU
    · exact check_1 num s w hs hU
    · exact check_2 num s w hs hU
    · exact check_3 num s w hs hU
    · exact check_4 num s w hs hU
    · exact check_5 num s w hs hU
end Go.Proofs.YtciolchdihlgfaaGreatDoor.Co
