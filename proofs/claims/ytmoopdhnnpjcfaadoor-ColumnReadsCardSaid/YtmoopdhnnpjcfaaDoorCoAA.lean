import Derived.Test.YtmoopdhnnpjcfaaDoorPCox
import Derived.Test.YtmoopdhnnpjcfaaDoorUt
import Derived.Test.YtmoopdhnnpjcfaaDoorWireSpec2
import Derived.Deep.QuietTactic
import Derived.BigQuiet
import Derived.Outline
import Derived.Deep.LoopGhost
/-! Column: what two texts share; what is wrong with a cell; the kinds. -/
namespace Go.Proofs.YtmoopdhnnpjcfaaDoor.Co
open Go.RowKit Go.Proofs.YtmoopdhnnpjcfaaDoorW.PrintWords Go.Proofs.YtmoopdhnnpjcfaaDoorW.PrintLast Go.Proofs.YtmoopdhnnpjcfaaDoorW.PrintMore Go.Proofs.YtmoopdhnnpjcfaaDoor.Wire Go.Proofs.YtmoopdhnnpjcfaaDoor.PCo
set_option linter.unusedVariables false
set_option linter.unusedSimpArgs false
set_option maxRecDepth 100000
def shr : List UInt8 → List UInt8 → Nat
  | x :: xs, y :: ys => if x = y then shr xs ys + 1 else 0
  | _, _ => 0
def shared (a b : ByteArray) : Nat := shr a.data.toList b.data.toList
theorem shr_le : ∀ a b : List UInt8, shr a b ≤ a.length ∧ shr a b ≤ b.length
  | [], b => by simp [shr]
  | x :: xs, [] => by simp [shr]
  | x :: xs, y :: ys => by
    have := shr_le xs ys
    simp only [shr]
    split <;> simp <;> omega
theorem shr_take : ∀ a b : List UInt8, a.take (shr a b) = b.take (shr a b)
  | [], b => by simp [shr]
  | x :: xs, [] => by simp [shr]
  | x :: xs, y :: ys => by
    have := shr_take xs ys
    simp only [shr]
    split
    · rename_i h; simp [h, this]
    · simp
theorem shr_next : ∀ (a b : List UInt8) (n : Nat), n ≤ shr a b → ∀ (h1 : n < a.length) (h2 : n < b.length), (n < shr a b ↔ a[n] = b[n])
  | [], b, n, _, h1, _ => absurd h1 (by simp)
  | x :: xs, [], n, _, _, h2 => absurd h2 (by simp)
  | x :: xs, y :: ys, 0, _, _, _ => by
    simp only [shr, List.getElem_cons_zero]
    split
    · rename_i h; exact ⟨fun _ => h, fun _ => Nat.succ_pos _⟩
    · rename_i h; exact ⟨fun z => absurd z (Nat.lt_irrefl 0), fun z => absurd z h⟩
  | x :: xs, y :: ys, n + 1, h, h1, h2 => by
    simp only [shr] at h ⊢
    split at h
    · rename_i e
      rw [if_pos e, List.getElem_cons_succ, List.getElem_cons_succ, Nat.succ_lt_succ_iff]
      exact shr_next xs ys n (by omega) (by simpa using h1) (by simpa using h2)
    · omega
theorem shared_le (a b : ByteArray) : shared a b ≤ a.size ∧ shared a b ≤ b.size := by
  have := shr_le a.data.toList b.data.toList
  rw [data_length, data_length] at this
  exact this
theorem shared_next {a b : ByteArray} {n : Nat} (h : n ≤ shared a b) (h1 : n < a.size) (h2 : n < b.size) : n < shared a b ↔ a[n] = b[n] :=
  shr_next a.data.toList b.data.toList n h (by rw [data_length]; exact h1) (by rw [data_length]; exact h2)
set_option maxHeartbeats 2000000 in
theorem shared_calls (a b : ByteArray) (ha : a.size ≤ 9223372036854775806) (w : World) : Calls Tryd.prog 32 #[.string a, .string b] w fun e w' => e = .returned (.int .i64 (shared a b : Int)) ∧ Below w.heap.size w w' := by
  have HL := Aside0.mk (shared_le a b)
  have HX := Aside0.mk (fun n (h : n ≤ shared a b) h1 h2 => shared_next (a := a) (b := b) (n := n) h h1 h2)
  obtain ⟨S, hS⟩ : ∃ S, shared a b = S := ⟨_, rfl⟩
  rw [hS] at HL HX ⊢
  clear hS
  go_enter Tryd.func32, Tryd.ntmps32
  go_wp2
  go_loopw [5] (fun i wr => ∃ n : Nat, n ≤ S ∧ i = .int .i64 (n : Int) ∧ Aside0 (Below w.heap.size w wr)) (fun i _ => S - (intOf i).toNat)
  case atStart => exact ⟨0, by omega, rfl, ⟨Below.refl _ _⟩⟩
  case round =>
    obtain ⟨n, hn, rfl, HB⟩ := hrel
    have hl1 := HL.out.1
    have hl2 := HL.out.2
    have p0 : (0 ≤ (n : Int)) = True := eq_true (by omega)
    by_cases hab : n < a.size ∧ n < b.size
    · obtain ⟨ha1, hb1⟩ := hab
      have p1 : ((n : Int) < (a.size : Int)) = True := eq_true (by omega)
      have p2 : ((n : Int) < (b.size : Int)) = True := eq_true (by omega)
      have l3 : decide ((n : Int) < min (a.size : Int) (b.size : Int)) = true := decide_eq_true (by omega)
      have hxx := HX.out n hn ha1 hb1
      have hmax : (n : Int) + 1 ≤ 9223372036854775807 := by omega
      obtain ⟨xa, hxa⟩ : ∃ xa : Int, ∀ h : n < a.size, ((a[n]'h).toNat : Int) = xa := ⟨((a[n]'ha1).toNat : Int), fun h => rfl⟩
      obtain ⟨xb, hxb⟩ : ∃ xb : Int, ∀ h : n < b.size, ((b[n]'h).toNat : Int) = xb := ⟨((b[n]'hb1).toNat : Int), fun h => rfl⟩
      have hE := Aside0.mk (show n < S ↔ xa = xb from by
        rw [hxx, ← hxa ha1, ← hxb hb1]
        constructor
        · intro h; rw [h]
        · intro h; exact UInt8.toNat_inj.1 (by omega))
      clear hxx
      by_cases hlt : n < S
      · have hE1 := hE.out.1 hlt
        subst hE1
        have q0 : (xa == xa) = true := by simp
        have HLT := Aside0.mk hlt
        clear hE hlt hn
        go_wp2_with fail
        go_quiet (fail)
        go_wp2_with fail
        go_roundw
        case rel => exact ⟨n + 1, HLT.out, by go_num, ⟨pw_below_drewN HB.out _⟩⟩
        case measure => have := HLT.out; simp [intOf]; omega
      · have q0 : (xa == xb) = false := beq_eq_false_iff_ne.mpr (fun h => hlt (hE.out.2 h))
        obtain rfl : S = n := by omega
        clear hE hlt hn
        go_wp2_with fail
        go_quiet (fail)
        go_wp2
        go_ret
        exact ⟨rfl, pw_below_drewN HB.out _⟩
    · have l3 : decide ((n : Int) < min (a.size : Int) (b.size : Int)) = false := decide_eq_false (by omega)
      obtain rfl : S = n := by omega
      clear hn hab
      go_wp2_with fail
      go_quiet (fail)
      go_wp2
      go_ret
      exact ⟨rfl, pw_below_drewN HB.out _⟩
/-! ### what is wrong with a cell -/
def chk (k num : Int) (s : ByteArray) : Int :=
  if k < 0 ∨ 5 < k then 10 else if k = 3 ∨ k = 4 then (if num ≠ 0 then 11 else if k = 4 ∧ Lib.validD s.data.toList = false then 11 else if 256 < s.size then 7 else 0)
  else (if s.size ≠ 0 then 11 else if k = 2 ∧ 1 < num then 11 else 0)
theorem valid_calls (s : ByteArray) (hs : s.size ≤ 9223372036854775807) (w : World) (hU : UtfW w) : Calls Tryd.prog 78 #[.string s] w fun e w' => e = .returned (.bool (Lib.validD s.data.toList)) ∧ Below w.heap.size w w' := Any.utf8_ValidString Tryd.laysValid s w hs hU
set_option maxHeartbeats 4000000 in
theorem check_other (k num : Int) (s : ByteArray) (w : World) (hk : k < 0 ∨ 5 < k) :
    Calls Tryd.prog 36 #[.int .i64 k, .agg #[.int .u64 num, .string s]] w fun e w' => e = .returned (.int .i64 10) ∧ Below w.heap.size w w' := by
  rcases hk with hk | hk
  · have t1 : decide (k > -1) = false := decide_eq_false (by omega)
    have t2 : decide (-1 < k) = false := decide_eq_false (by omega)
    clear hk
    go_enter Tryd.func36, Tryd.ntmps36
    go_wp2
    go_ret
    exact ⟨rfl, below_alloc (Below.refl _ _) _⟩
  · have t1 : decide (k > -1) = true := decide_eq_true (by omega)
    have t2 : decide (-1 < k) = true := decide_eq_true (by omega)
    have t3 : decide (k ≤ 5) = false := decide_eq_false (by omega)
    clear hk
    go_enter Tryd.func36, Tryd.ntmps36
    go_wp2
    go_ret
    exact ⟨rfl, below_alloc (Below.refl _ _) _⟩
end Go.Proofs.YtmoopdhnnpjcfaaDoor.Co
/-! Column: cell.Check, kind by kind. -/
namespace Go.Proofs.YtmoopdhnnpjcfaaDoor.Co
open Go.RowKit Go.Proofs.YtmoopdhnnpjcfaaDoorW.PrintWords Go.Proofs.YtmoopdhnnpjcfaaDoorW.PrintLast Go.Proofs.YtmoopdhnnpjcfaaDoorW.PrintMore Go.Proofs.YtmoopdhnnpjcfaaDoor.Wire Go.Proofs.YtmoopdhnnpjcfaaDoor.PCo
set_option linter.unusedVariables false
set_option linter.unusedSimpArgs false
set_option maxRecDepth 100000
theorem size_zero {s : ByteArray} (h : s.size = 0) : s = ⟨#[]⟩ := by
  obtain ⟨d⟩ := s
  congr 1
  exact Array.eq_empty_of_size_eq_zero h
theorem ne_empty {s : ByteArray} (h : s.size ≠ 0) : s.toList ≠ [] := by
  rw [str_toList]
  intro e
  have := congrArg List.length e
  rw [data_length] at this
  exact h this
theorem kindly4 (w : World) : Calls Tryd.prog 76 #[.int .i64 4] w fun e w' => e = .returned (.bool true) ∧ w = w' := by
  go_enter Tryd.func76, Tryd.ntmps76
  go_wp2
  go_ret
  exact ⟨rfl, rfl⟩
theorem texty4 (w : World) : Calls Tryd.prog 77 #[.int .i64 4] w fun e w' => e = .returned (.bool true) ∧ w = w' := by
  go_enter Tryd.func77, Tryd.ntmps77
  go_wp2
  go_ret
  exact ⟨rfl, rfl⟩
set_option maxHeartbeats 4000000 in
theorem check_0 (num : Int) (s : ByteArray) (w : World) (hs : s.size ≤ 9223372036854775807) (hU : UtfW w) :
    Calls Tryd.prog 36 #[.int .i64 0, .agg #[.int .u64 num, .string s]] w fun e w' => e = .returned (.int .i64 (chk 0 num s)) ∧ Below w.heap.size w w' := by
  have HU := Aside0.mk (show UtfW (w.alloc (.cells #[.int .u64 num, .string s] 47)) from hU.below (below_alloc (Below.refl _ _) _))
  clear hU
  by_cases h0 : s.size = 0
  · obtain rfl := size_zero h0
    rw [show chk 0 num ⟨#[]⟩ = 0 from by unfold chk; simp [h0]]
    clear h0
    go_enter Tryd.func36, Tryd.ntmps36
    go_wp2
    go_ret
    exact ⟨by first | rfl | simp, below_alloc (Below.refl _ _) _⟩
  · have t1 : (s.toList != ([] : List UInt8)) = true := bne_iff_ne.mpr (ne_empty h0)
    have t2 : (s.toList == ([] : List UInt8)) = false := beq_eq_false_iff_ne.mpr (ne_empty h0)
    have t3 : s.toList.isEmpty = false := by cases h : s.toList with | nil => exact absurd h (ne_empty h0) | cons => rfl
    rw [show chk 0 num s = 11 from by unfold chk; simp [h0]]
    clear h0
    go_enter Tryd.func36, Tryd.ntmps36
    go_wp2
    go_ret
    exact ⟨by first | rfl | simp, below_alloc (Below.refl _ _) _⟩
set_option maxHeartbeats 4000000 in
theorem check_1 (num : Int) (s : ByteArray) (w : World) (hs : s.size ≤ 9223372036854775807) (hU : UtfW w) :
    Calls Tryd.prog 36 #[.int .i64 1, .agg #[.int .u64 num, .string s]] w fun e w' => e = .returned (.int .i64 (chk 1 num s)) ∧ Below w.heap.size w w' := by
  have HU := Aside0.mk (show UtfW (w.alloc (.cells #[.int .u64 num, .string s] 47)) from hU.below (below_alloc (Below.refl _ _) _))
  clear hU
  by_cases h0 : s.size = 0
  · obtain rfl := size_zero h0
    rw [show chk 1 num ⟨#[]⟩ = 0 from by unfold chk; simp [h0]]
    clear h0
    go_enter Tryd.func36, Tryd.ntmps36
    go_wp2
    go_ret
    exact ⟨by first | rfl | simp, below_alloc (Below.refl _ _) _⟩
  · have t1 : (s.toList != ([] : List UInt8)) = true := bne_iff_ne.mpr (ne_empty h0)
    have t2 : (s.toList == ([] : List UInt8)) = false := beq_eq_false_iff_ne.mpr (ne_empty h0)
    have t3 : s.toList.isEmpty = false := by cases h : s.toList with | nil => exact absurd h (ne_empty h0) | cons => rfl
    rw [show chk 1 num s = 11 from by unfold chk; simp [h0]]
    clear h0
    go_enter Tryd.func36, Tryd.ntmps36
    go_wp2
    go_ret
    exact ⟨by first | rfl | simp, below_alloc (Below.refl _ _) _⟩
set_option maxHeartbeats 4000000 in
theorem check_2 (num : Int) (s : ByteArray) (w : World) (hs : s.size ≤ 9223372036854775807) (hU : UtfW w) :
    Calls Tryd.prog 36 #[.int .i64 2, .agg #[.int .u64 num, .string s]] w fun e w' => e = .returned (.int .i64 (chk 2 num s)) ∧ Below w.heap.size w w' := by
  have HU := Aside0.mk (show UtfW (w.alloc (.cells #[.int .u64 num, .string s] 47)) from hU.below (below_alloc (Below.refl _ _) _))
  clear hU
  by_cases h0 : s.size = 0
  · obtain rfl := size_zero h0
    by_cases h1 : 1 < num
    · have t1 : decide (1 < num) = true := decide_eq_true (by omega)
      rw [show chk 2 num ⟨#[]⟩ = 11 from by unfold chk; simp [h1, h0]]
      clear h1 h0
      go_enter Tryd.func36, Tryd.ntmps36
      go_wp2
      go_ret
      exact ⟨by first | rfl | simp, below_alloc (Below.refl _ _) _⟩
    · have t1 : decide (1 < num) = false := decide_eq_false (by omega)
      rw [show chk 2 num ⟨#[]⟩ = 0 from by unfold chk; simp [h1, h0]]
      clear h1 h0
      go_enter Tryd.func36, Tryd.ntmps36
      go_wp2
      go_ret
      exact ⟨by first | rfl | simp, below_alloc (Below.refl _ _) _⟩
  · have t1 : (s.toList != ([] : List UInt8)) = true := bne_iff_ne.mpr (ne_empty h0)
    have t2 : (s.toList == ([] : List UInt8)) = false := beq_eq_false_iff_ne.mpr (ne_empty h0)
    have t3 : s.toList.isEmpty = false := by cases h : s.toList with | nil => exact absurd h (ne_empty h0) | cons => rfl
    rw [show chk 2 num s = 11 from by unfold chk; simp [h0]]
    clear h0
    go_enter Tryd.func36, Tryd.ntmps36
    go_wp2
    go_ret
    exact ⟨by first | rfl | simp, below_alloc (Below.refl _ _) _⟩
set_option maxHeartbeats 4000000 in
theorem check_3 (num : Int) (s : ByteArray) (w : World) (hs : s.size ≤ 9223372036854775807) (hU : UtfW w) :
    Calls Tryd.prog 36 #[.int .i64 3, .agg #[.int .u64 num, .string s]] w fun e w' => e = .returned (.int .i64 (chk 3 num s)) ∧ Below w.heap.size w w' := by
  have HU := Aside0.mk (show UtfW (w.alloc (.cells #[.int .u64 num, .string s] 47)) from hU.below (below_alloc (Below.refl _ _) _))
  clear hU
  by_cases h0 : num = 0
  · subst h0
    by_cases h2 : 256 < s.size
    · have t2 : decide ((256 : Int) < (s.size : Int)) = true := decide_eq_true (by omega)
      rw [show chk 3 0 s = 7 from by unfold chk; simp [h2]]
      clear h2
      go_enter Tryd.func36, Tryd.ntmps36
      go_wp2
      go_ret
      exact ⟨by first | rfl | simp, below_alloc (Below.refl _ _) _⟩
    · have t2 : decide ((256 : Int) < (s.size : Int)) = false := decide_eq_false (by omega)
      rw [show chk 3 0 s = 0 from by unfold chk; simp [h2]]
      clear h2
      go_enter Tryd.func36, Tryd.ntmps36
      go_wp2
      go_ret
      exact ⟨by first | rfl | simp, below_alloc (Below.refl _ _) _⟩
  · have t1 : (num != 0) = true := bne_iff_ne.mpr h0
    have t2 : (num == 0) = false := beq_eq_false_iff_ne.mpr h0
    rw [show chk 3 num s = 11 from by unfold chk; simp [h0]]
    clear h0
    go_enter Tryd.func36, Tryd.ntmps36
    go_wp2
    go_ret
    exact ⟨by first | rfl | simp, below_alloc (Below.refl _ _) _⟩
set_option maxHeartbeats 4000000 in
theorem check_4 (num : Int) (s : ByteArray) (w : World) (hs : s.size ≤ 9223372036854775807) (hU : UtfW w) :
    Calls Tryd.prog 36 #[.int .i64 4, .agg #[.int .u64 num, .string s]] w fun e w' => e = .returned (.int .i64 (chk 4 num s)) ∧ Below w.heap.size w w' := by
  have HU := Aside0.mk (show UtfW (w.alloc (.cells #[.int .u64 num, .string s] 47)) from hU.below (below_alloc (Below.refl _ _) _))
  clear hU
  by_cases h0 : num = 0
  · subst h0
    cases hv : Lib.validD s.data.toList with
    | false =>
      rw [show chk 4 0 s = 11 from by unfold chk; simp [hv]]
      have HV := Aside0.mk (valid_calls s hs _ HU.out)
      rw [hv] at HV
      go_enter Tryd.func36, Tryd.ntmps36
      go_wp2_with (first | (go_at_call 76; refine (kindly4 _).mono ?_; rintro e w' ⟨rfl, rfl⟩) | (go_at_call 77; refine (texty4 _).mono ?_; rintro e w' ⟨rfl, rfl⟩) | (go_at_call 78; refine HV.out.mono ?_; rintro e w1 ⟨rfl, b1⟩; have c1 : w1.cell? ⟨w.heap.size, 1, none⟩ = some (.string s) := (blk_cell (blk_below (heap_alloc_new w _) b1) 1).trans rfl; have HB1 := Aside0.mk (below_step (below_alloc (Below.refl _ _) _) b1); clear b1))
      go_ret
      exact ⟨by first | rfl | simp, HB1.out⟩
    | true =>
      by_cases h2 : 256 < s.size
      · have t2 : decide ((256 : Int) < (s.size : Int)) = true := decide_eq_true (by omega)
        rw [show chk 4 0 s = 7 from by unfold chk; simp [h2, hv]]
        clear h2
        have HV := Aside0.mk (valid_calls s hs _ HU.out)
        rw [hv] at HV
        go_enter Tryd.func36, Tryd.ntmps36
        go_wp2_with (first | (go_at_call 76; refine (kindly4 _).mono ?_; rintro e w' ⟨rfl, rfl⟩) | (go_at_call 77; refine (texty4 _).mono ?_; rintro e w' ⟨rfl, rfl⟩) | (go_at_call 78; refine HV.out.mono ?_; rintro e w1 ⟨rfl, b1⟩; have c1 : w1.cell? ⟨w.heap.size, 1, none⟩ = some (.string s) := (blk_cell (blk_below (heap_alloc_new w _) b1) 1).trans rfl; have HB1 := Aside0.mk (below_step (below_alloc (Below.refl _ _) _) b1); clear b1))
        go_ret
        exact ⟨by first | rfl | simp, HB1.out⟩
      · have t2 : decide ((256 : Int) < (s.size : Int)) = false := decide_eq_false (by omega)
        rw [show chk 4 0 s = 0 from by unfold chk; simp [h2, hv]]
        clear h2
        have HV := Aside0.mk (valid_calls s hs _ HU.out)
        rw [hv] at HV
        go_enter Tryd.func36, Tryd.ntmps36
        go_wp2_with (first | (go_at_call 76; refine (kindly4 _).mono ?_; rintro e w' ⟨rfl, rfl⟩) | (go_at_call 77; refine (texty4 _).mono ?_; rintro e w' ⟨rfl, rfl⟩) | (go_at_call 78; refine HV.out.mono ?_; rintro e w1 ⟨rfl, b1⟩; have c1 : w1.cell? ⟨w.heap.size, 1, none⟩ = some (.string s) := (blk_cell (blk_below (heap_alloc_new w _) b1) 1).trans rfl; have HB1 := Aside0.mk (below_step (below_alloc (Below.refl _ _) _) b1); clear b1))
        go_ret
        exact ⟨by first | rfl | simp, HB1.out⟩
  · have t1 : (num != 0) = true := bne_iff_ne.mpr h0
    have t2 : (num == 0) = false := beq_eq_false_iff_ne.mpr h0
    rw [show chk 4 num s = 11 from by unfold chk; simp [h0]]
    clear h0
    go_enter Tryd.func36, Tryd.ntmps36
    go_wp2
    go_ret
    exact ⟨by first | rfl | simp, below_alloc (Below.refl _ _) _⟩
set_option maxHeartbeats 4000000 in
theorem check_5 (num : Int) (s : ByteArray) (w : World) (hs : s.size ≤ 9223372036854775807) (hU : UtfW w) :
    Calls Tryd.prog 36 #[.int .i64 5, .agg #[.int .u64 num, .string s]] w fun e w' => e = .returned (.int .i64 (chk 5 num s)) ∧ Below w.heap.size w w' := by
  have HU := Aside0.mk (show UtfW (w.alloc (.cells #[.int .u64 num, .string s] 47)) from hU.below (below_alloc (Below.refl _ _) _))
  clear hU
  by_cases h0 : s.size = 0
  · obtain rfl := size_zero h0
    rw [show chk 5 num ⟨#[]⟩ = 0 from by unfold chk; simp [h0]]
    clear h0
    go_enter Tryd.func36, Tryd.ntmps36
    go_wp2
    go_ret
    exact ⟨by first | rfl | simp, below_alloc (Below.refl _ _) _⟩
  · have t1 : (s.toList != ([] : List UInt8)) = true := bne_iff_ne.mpr (ne_empty h0)
    have t2 : (s.toList == ([] : List UInt8)) = false := beq_eq_false_iff_ne.mpr (ne_empty h0)
    have t3 : s.toList.isEmpty = false := by cases h : s.toList with | nil => exact absurd h (ne_empty h0) | cons => rfl
    rw [show chk 5 num s = 11 from by unfold chk; simp [h0]]
    clear h0
    go_enter Tryd.func36, Tryd.ntmps36
    go_wp2
    go_ret
    exact ⟨by first | rfl | simp, below_alloc (Below.refl _ _) _⟩
theorem check_calls (k num : Int) (s : ByteArray) (w : World) (hs : s.size ≤ 9223372036854775807) (hU : UtfW w) :
    Calls Tryd.prog 36 #[.int .i64 k, .agg #[.int .u64 num, .string s]] w fun e w' => e = .returned (.int .i64 (chk k num s)) ∧ Below w.heap.size w w' := by
  by_cases hk : k < 0 ∨ 5 < k
  · rw [show chk k num s = 10 from if_pos hk]
    exact check_other k num s w hk
  · obtain rfl | rfl | rfl | rfl | rfl | rfl : k = 0 ∨ k = 1 ∨ k = 2 ∨ k = 3 ∨ k = 4 ∨ k = 5 := by omega
    · exact check_0 num s w hs hU
    · exact check_1 num s w hs hU
    · exact check_2 num s w hs hU
    · exact check_3 num s w hs hU
    · exact check_4 num s w hs hU
    · exact check_5 num s w hs hU
end Go.Proofs.YtmoopdhnnpjcfaaDoor.Co
