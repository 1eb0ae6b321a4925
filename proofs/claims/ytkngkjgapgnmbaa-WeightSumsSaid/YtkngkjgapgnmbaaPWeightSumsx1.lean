-- WRITTEN by a program of this session's own (wip/gen/mkprint.py), over the kit's print: not printed by print.sh itself
import Derived.Test.YtkngkjgapgnmbaaPWeightSumsx0
namespace Go.Proofs.Ytkngkjgapgnmbaa.PWeightSums
open Go.RowKit Go.Proofs.YtkngkjgapgnmbaaW.PrintWords Go.Proofs.YtkngkjgapgnmbaaW.PrintLast Go.Proofs.YtkngkjgapgnmbaaW.PrintMore
attribute [local go_sem] max2_int min2_int max_two min_two max_three min_three max_four min_four   -- for this text's walks alone
set_option linter.unusedVariables false
set_option linter.unusedSimpArgs false

/-! ### weight_Sum: function 26 -/
theorem weight_Sum.add64 (x y c : Nat) (hc : c ≤ 1) (w : World) :
    (callFunc 47 #[.int .u64 (x : Int), .int .u64 (y : Int), .int .u64 (c : Int)]).run Try.prog w =
      .ok (.value (.tuple #[.int .u64 (((x + y + c) % 18446744073709551616 : Nat) : Int), .int .u64 (((x + y + c) / 18446744073709551616 : Nat) : Int)])) w := by
  rw [run_callFunc_extern Try.func47 (by kernel_rfl) (by kernel_rfl) (by kernel_rfl) (e := add64Entry) (by kernel_rfl), run_add64 x y c (by omega) (by omega) (by omega) (by omega)]
  simp only [Result.andThen]
  congr 5 <;> omega
def weight_Sum.lo (S : Int) : Nat := (S % 18446744073709551616).toNat
def weight_Sum.hi (S : Int) : Nat := (S / 18446744073709551616 % 18446744073709551616).toNat
theorem weight_Sum.lo_lt (S : Int) : weight_Sum.lo S < 18446744073709551616 := by unfold weight_Sum.lo; omega
theorem weight_Sum.hi_lt (S : Int) : weight_Sum.hi S < 18446744073709551616 := by unfold weight_Sum.hi; omega
theorem weight_Sum.lo_plus (S w : Int) : weight_Sum.lo (S + w) = (weight_Sum.lo S + (w % 18446744073709551616).toNat + 0) % 18446744073709551616 := by
  unfold weight_Sum.lo
  omega
theorem weight_Sum.hi_plus (S w : Int) (h0 : -9223372036854775808 ≤ w) (h1 : w ≤ 9223372036854775807) :
    weight_Sum.hi (S + w) = (weight_Sum.hi S + (w / 9223372036854775808 % 18446744073709551616).toNat + (weight_Sum.lo S + (w % 18446744073709551616).toNat + 0) / 18446744073709551616) % 18446744073709551616 := by
  unfold weight_Sum.hi weight_Sum.lo
  omega
set_option maxHeartbeats 2000000 in
set_option maxRecDepth 100000 in
theorem weight_Sum.plus_calls (S w : Int) (h0 : -9223372036854775808 ≤ w) (h1 : w ≤ 9223372036854775807) (W : World) :
    Calls Try.prog 42 #[.agg #[.int .u64 (weight_Sum.lo S : Nat), .int .u64 (weight_Sum.hi S : Nat)], .int .i64 w] W fun e w' => e = .returned (.agg #[.int .u64 (weight_Sum.lo (S + w) : Nat), .int .u64 (weight_Sum.hi (S + w) : Nat)]) ∧ Below W.heap.size W w' := by
  obtain ⟨wn, hwn⟩ : ∃ n : Nat, n = (w % 18446744073709551616).toNat := ⟨_, rfl⟩
  obtain ⟨wm, hwm⟩ : ∃ n : Nat, n = (w / 9223372036854775808 % 18446744073709551616).toNat := ⟨_, rfl⟩
  have g1 : IntKind.u64.wrap w = (wn : Int) := by rw [hwn]; simp [IntKind.wrap, IntKind.bits, IntKind.signed]; omega
  have g2 : IntKind.u64.wrap (w / 9223372036854775808) = (wm : Int) := by rw [hwm]; simp [IntKind.wrap, IntKind.bits, IntKind.signed]; omega
  have e1 := weight_Sum.lo_plus S w
  have e2 := weight_Sum.hi_plus S w h0 h1
  rw [← hwn] at e1 e2
  rw [← hwm] at e2
  have l1 := weight_Sum.lo_lt S
  have hcn : (weight_Sum.lo S + wn + 0) / 18446744073709551616 ≤ 1 := by omega
  have r1 := weight_Sum.add64 (weight_Sum.lo S) wn 0 (by omega)
  have r2 := weight_Sum.add64 (weight_Sum.hi S) wm ((weight_Sum.lo S + wn + 0) / 18446744073709551616) hcn
  rw [← e1] at r1
  rw [← e2] at r2
  rw [show ((0 : Nat) : Int) = 0 from rfl] at r1
  generalize (weight_Sum.lo S + wn + 0) / 18446744073709551616 = c1 at *
  generalize hq : (weight_Sum.hi S + wm + c1) / 18446744073709551616 = c2 at *
  clear e1 e2 hcn hq hwn hwm l1 h0 h1
  generalize weight_Sum.lo S = x0 at *
  generalize weight_Sum.hi S = x1 at *
  generalize weight_Sum.lo (S + w) = y0 at *
  generalize weight_Sum.hi (S + w) = y1 at *
  go_enter Try.func42, Try.ntmps42
  go_wp2
  exact bodyPost_ret (v := .agg #[.int .u64 (y0 : Int), .int .u64 (y1 : Int)]) (by simp [results, Try.results42, go_sem]) rfl ⟨rfl, below_alloc (below_alloc (Below.refl _ _) _) _⟩
theorem weight_Sum.is_weight (S : Int) (h0 : -170141183460469231731687303715884105728 ≤ S) (h1 : S < 170141183460469231731687303715884105728) :
    (-9223372036854775808 ≤ S ∧ S ≤ 9223372036854775807 → wrap64 (weight_Sum.lo S : Nat) = S ∧ IntKind.u64.wrap (S / 9223372036854775808) = (weight_Sum.hi S : Nat)) ∧
    (¬ (-9223372036854775808 ≤ S ∧ S ≤ 9223372036854775807) → IntKind.u64.wrap (wrap64 (weight_Sum.lo S : Nat) / 9223372036854775808) ≠ (weight_Sum.hi S : Nat)) := by
  have e : ∀ n : Int, IntKind.u64.wrap n = n % 18446744073709551616 := fun n => by simp [IntKind.wrap, IntKind.bits, IntKind.signed]
  rw [e, e]
  unfold weight_Sum.lo weight_Sum.hi wrap64
  obtain ⟨x, hx⟩ : ∃ x : Int, x = S % 18446744073709551616 := ⟨_, rfl⟩
  obtain ⟨q, hq⟩ : ∃ q : Int, q = S / 18446744073709551616 := ⟨_, rfl⟩
  have hS : S = 18446744073709551616 * q + x := by omega
  have x0 : 0 ≤ x := by omega
  have x1 : x < 18446744073709551616 := by omega
  have q0 : -9223372036854775808 ≤ q := by omega
  have q1 : q < 9223372036854775808 := by omega
  rw [← hx, ← hq, Int.toNat_of_nonneg x0, Int.toNat_of_nonneg (by omega)]
  clear hx hq
  subst hS
  clear h0 h1
  by_cases hc : x < 9223372036854775808
  · have hv : (x + 9223372036854775808) % 18446744073709551616 - 9223372036854775808 = x := by omega
    rw [hv]
    constructor
    · intro h
      constructor <;> omega
    · intro h
      omega
  · have hv : (x + 9223372036854775808) % 18446744073709551616 - 9223372036854775808 = x - 18446744073709551616 := by omega
    rw [hv]
    constructor
    · intro h
      constructor <;> omega
    · intro h
      omega
def weight_Sum.fits (S : Int) : Int × Int := if -9223372036854775808 ≤ S ∧ S ≤ 9223372036854775807 then (S, 0) else (0, 12)
set_option maxHeartbeats 2000000 in
set_option maxRecDepth 100000 in
theorem weight_Sum.weight_calls (S : Int) (h0 : -170141183460469231731687303715884105728 ≤ S) (h1 : S < 170141183460469231731687303715884105728) (W : World) :
    Calls Try.prog 43 #[.agg #[.int .u64 (weight_Sum.lo S : Nat), .int .u64 (weight_Sum.hi S : Nat)]] W fun e w' => e = .returned (.tuple #[.int .i64 (weight_Sum.fits S).1, .int .i64 (weight_Sum.fits S).2]) ∧ Below W.heap.size W w' := by
  obtain ⟨k1, k2⟩ := weight_Sum.is_weight S h0 h1
  obtain ⟨v, hv⟩ : ∃ v, v = wrap64 (weight_Sum.lo S : Nat) := ⟨_, rfl⟩
  obtain ⟨u, hu⟩ : ∃ u, u = IntKind.u64.wrap (v / 9223372036854775808) := ⟨_, rfl⟩
  by_cases h : -9223372036854775808 ≤ S ∧ S ≤ 9223372036854775807
  · obtain ⟨a1, a2⟩ := k1 h
    have hf := Aside0.mk (show weight_Sum.fits S = (S, 0) from if_pos h)
    rw [a1] at hv
    rw [hv, a2] at hu
    have g1 : wrap64 (weight_Sum.lo S : Nat) = S := a1
    have g2 : IntKind.u64.wrap (S / 9223372036854775808) = (weight_Sum.hi S : Nat) := a2
    clear a1 a2 k1 k2 h h0 h1 hv hu
    generalize weight_Sum.lo S = x0 at *
    generalize weight_Sum.hi S = x1 at *
    go_enter Try.func43, Try.ntmps43
    go_wp2
    go_ret2
    exact ⟨by rw [hf.out]; simp [g1], below_alloc (Below.refl _ _) _⟩
  · have a2 := k2 h
    have hf := Aside0.mk (show weight_Sum.fits S = (0, 12) from if_neg h)
    rw [← hv, ← hu] at a2
    have g1 : wrap64 (weight_Sum.lo S : Nat) = v := hv.symm
    have g2 : IntKind.u64.wrap (v / 9223372036854775808) = u := hu.symm
    have t1 : (((weight_Sum.hi S : Nat) : Int) != u) = true := bne_iff_ne.2 (fun z => a2 z.symm)
    have t2 : (((weight_Sum.hi S : Nat) : Int) == u) = false := beq_eq_false_iff_ne.2 (fun z => a2 z.symm)
    clear a2 k1 k2 h h0 h1 hv hu
    generalize weight_Sum.lo S = x0 at *
    generalize weight_Sum.hi S = x1 at *
    go_enter Try.func43, Try.ntmps43
    go_wp2
    go_ret2
    exact ⟨by rw [hf.out]; simp, below_alloc (Below.refl _ _) _⟩
/-- A total at block g: its exact sum, how many there were. -/
def weight_Sum.At (w : World) (g : Nat) (S : Int) (n : Nat) : Prop := w.heap[g]? = some (.cells #[.int .u64 (weight_Sum.lo S : Nat), .int .u64 (weight_Sum.hi S : Nat), .int .i64 (n : Int)] 53 (0, 0))
set_option maxHeartbeats 2000000 in
set_option maxRecDepth 100000 in
theorem weight_Sum.add_calls (S w : Int) (g n : Nat) (h0 : -9223372036854775808 ≤ w) (h1 : w ≤ 9223372036854775807) (hn : n < 9223372036854775807) (W : World) (hg : weight_Sum.At W g S n) :
    Calls Try.prog 31 #[.pointer (some ⟨g, 0, none⟩), .int .i64 w] W fun e w' => e = .returned (.int .i64 0) ∧ weight_Sum.At w' g (S + w) (n + 1) ∧ (∀ B, B ≤ g → Below B W w') ∧ ∀ i, i < W.heap.size → i ≠ g → w'.heap[i]? = W.heap[i]? := by
  have hb : W.heap[g]? = some (.cells #[.int .u64 (weight_Sum.lo S : Nat), .int .u64 (weight_Sum.hi S : Nat), .int .i64 (n : Int)] 53 (0, 0)) := hg
  have hlt := blk_lt hb
  have HB := Aside0.mk hb
  have c0 : W.cell? ⟨g, 0, none⟩ = some (.int .u64 (weight_Sum.lo S : Nat)) := (blk_cell hb 0).trans rfl
  have c1 : W.cell? ⟨g, 1, none⟩ = some (.int .u64 (weight_Sum.hi S : Nat)) := (blk_cell hb 1).trans rfl
  clear hg hb
  go_enter Try.func31, Try.ntmps31
  go_wp2_with fail
  refine (weight_Sum.plus_calls S w h0 h1 _).mono ?_
  rintro e w1 ⟨rfl, hbel⟩
  have hb1 := (hbel.block g hlt).trans HB.out
  have HB1 := Aside0.mk hb1
  have HW1 := Aside0.mk hbel
  have hn1 : (n : Int) + 1 ≤ 9223372036854775807 := by omega
  have c0 : w1.cell? ⟨g, 0, none⟩ = some (.int .u64 (weight_Sum.lo S : Nat)) := (blk_cell hb1 0).trans rfl
  have c1 : w1.cell? ⟨g, 1, none⟩ = some (.int .u64 (weight_Sum.hi S : Nat)) := (blk_cell hb1 1).trans rfl
  have c2 : w1.cell? ⟨g, 2, none⟩ = some (.int .i64 (n : Int)) := (blk_cell hb1 2).trans rfl
  have f0 : w1.frozen? ⟨g, 0, none⟩ = false := blk_frozen hb1 0
  have f1 : w1.frozen? ⟨g, 1, none⟩ = false := blk_frozen hb1 1
  have f2 : w1.frozen? ⟨g, 2, none⟩ = false := blk_frozen hb1 2
  clear hb1 hbel
  go_wp2
  go_ret
  refine ⟨rfl, ?_, fun B hB => ?_, fun i hi hne => ?_⟩
  · exact (blk_set (blk_set (blk_set HB1.out 0 _) 1 _) 2 _).trans rfl
  · have hW := HW1.out
    have h2 : Below B W w1 := ⟨hW.os, hW.tape, hW.output, hW.size, fun i hi => hW.block i (by omega)⟩
    exact ((h2.setCell hB _).setCell hB _).setCell hB _
  · rw [Below.heap_setCell _ _ _ _ hne, Below.heap_setCell _ _ _ _ hne, Below.heap_setCell _ _ _ _ hne]
    exact HW1.out.block i hi
set_option maxHeartbeats 2000000 in
set_option maxRecDepth 100000 in
theorem weight_Sum.sum_calls (S : Int) (g n : Nat) (h0 : -170141183460469231731687303715884105728 ≤ S) (h1 : S < 170141183460469231731687303715884105728) (W : World) (hg : weight_Sum.At W g S n) :
    Calls Try.prog 33 #[.pointer (some ⟨g, 0, none⟩)] W fun e w' => e = .returned (.tuple #[.int .i64 (weight_Sum.fits S).1, .int .i64 (weight_Sum.fits S).2]) ∧ Below W.heap.size W w' := by
  have hb : W.heap[g]? = some (.cells #[.int .u64 (weight_Sum.lo S : Nat), .int .u64 (weight_Sum.hi S : Nat), .int .i64 (n : Int)] 53 (0, 0)) := hg
  have c0 : W.cell? ⟨g, 0, none⟩ = some (.int .u64 (weight_Sum.lo S : Nat)) := (blk_cell hb 0).trans rfl
  have c1 : W.cell? ⟨g, 1, none⟩ = some (.int .u64 (weight_Sum.hi S : Nat)) := (blk_cell hb 1).trans rfl
  have H0 := Aside0.mk h0
  have H1 := Aside0.mk h1
  clear hg hb h0 h1
  go_enter Try.func33, Try.ntmps33
  go_wp2_with fail
  refine (weight_Sum.weight_calls S H0.out H1.out _).mono ?_
  rintro e w1 ⟨rfl, hbel⟩
  have HW1 := Aside0.mk hbel
  clear hbel
  go_wp2
  go_ret2
  exact ⟨rfl, HW1.out⟩
def weight_Sum.f (l0 : List Int) : Option (Int × Int) := if ∀ c ∈ l0, -9223372036854775808 ≤ c ∧ c ≤ 9223372036854775807 then some (weight_Sum.fits l0.sum) else none
theorem weight_Sum.sum_bound : ∀ l : List Int, (∀ c ∈ l, -9223372036854775808 ≤ c ∧ c ≤ 9223372036854775807) → -9223372036854775808 * (l.length : Int) ≤ l.sum ∧ l.sum ≤ 9223372036854775807 * (l.length : Int)
  | [], _ => by simp
  | c :: t, h => by
    have h1 := weight_Sum.sum_bound t (fun d hd => h d (List.mem_cons_of_mem _ hd))
    have h2 := h c (List.mem_cons_self ..)
    simp only [List.sum_cons, List.length_cons]
    omega
def weight_Sum.upto (l : List Int) (k : Nat) : Int := (l.take k).sum
set_option maxHeartbeats 4000000 in
set_option maxRecDepth 100000 in
theorem weight_Sum.calls (A0 : Option Addr) (c0 : Nat) (l0 : List Int) (r1 r2 : Int) (w : World) (hr0 : Kd.C (Kd.int .i64) w A0 l0.length l0) (hc0 : l0.length ≤ c0) (h : weight_Sum.f l0 = some (r1, r2)) :
    Calls Try.prog 26 #[.slice A0 l0.length c0] w fun e w' => e = .returned (.tuple #[.int .i64 r1, .int .i64 r2]) ∧ Below w.heap.size w w' := by
  unfold weight_Sum.f at h
  split at h
  case isFalse => cases h
  rename_i hcond
  have HV := Aside0.mk (Option.some.inj h)
  have HR0 := Aside0.mk hr0
  have HBY := Aside0.mk hcond
  have HM := Aside0.mk hr0.2.1
  clear h hr0 hcond
  have hbd : ∀ k, -170141183460469231731687303715884105728 ≤ weight_Sum.upto l0 k ∧ weight_Sum.upto l0 k < 170141183460469231731687303715884105728 := fun k => by
    have := weight_Sum.sum_bound (l0.take k) (fun c hc => HBY.out c (List.mem_of_mem_take hc))
    have h2 : (l0.take k).length ≤ l0.length := by rw [List.length_take]; omega
    have h3 := HM.out
    unfold weight_Sum.upto
    omega
  have HBD := Aside0.mk hbd
  clear hbd
  go_enter Try.func26, Try.ntmps26
  go_wp2_with fail
  go_loopw [9] (fun i wr => ∃ k : Nat, k ≤ l0.length ∧ i = .int .i64 k ∧ Aside0 (weight_Sum.At wr w.heap.size (weight_Sum.upto l0 k) k) ∧ Aside0 (Below w.heap.size w wr)) (fun i _ => l0.length - (intOf i).toNat)
  case atStart => exact ⟨0, by omega, rfl, ⟨heap_alloc_new _ _⟩, ⟨below_alloc (Below.refl _ _) _⟩⟩
  case round =>
    obtain ⟨k, hk, rfl, HBk, HBw⟩ := hrel
    by_cases hlt : k < l0.length
    · obtain ⟨ad, e, hx⟩ := Kd.at_int (Kd.C_below HR0.out HBw.out) (k : Int) (by omega) (by omega)
      cases e
      have hmem : l0[k] ∈ l0 := List.getElem_mem hlt
      have hrd : rd l0 (k : Int) = l0[k] := by unfold rd; rw [Int.toNat_natCast, List.getD_eq_getElem?_getD, List.getElem?_eq_getElem hlt]; rfl
      have HU := Aside0.mk (show weight_Sum.upto l0 (k + 1) = weight_Sum.upto l0 k + l0[k] by unfold weight_Sum.upto; rw [List.take_succ_eq_append_getElem hlt, List.sum_append]; simp)
      have HC := Aside0.mk (HBY.out _ hmem)
      rw [hrd, Int.toNat_natCast] at hx
      clear hmem hrd
      generalize l0[k] = c at *
      generalize weight_Sum.upto l0 k = q at *
      have t1 : decide ((k : Int) < (l0.length : Int)) = true := decide_eq_true (by omega)
      have t2 : decide (k < l0.length) = true := decide_eq_true hlt
      have p1 : (0 ≤ (k : Int)) = True := eq_true (by omega)
      have p2 : ((k : Int) < (l0.length : Int)) = True := eq_true (by omega)
      have HK := Aside0.mk hlt
      clear hlt hk
      have hmax : (k : Int) + 1 ≤ 9223372036854775807 := by have := HM.out; have := HK.out; omega
      go_wp2_with fail
      refine (weight_Sum.add_calls q c _ k HC.out.1 HC.out.2 (by have := HM.out; have := HK.out; omega) _ HBk.out).mono ?_
      rintro e w1 ⟨rfl, hat, hbl, -⟩
      have HB1 := Aside0.mk hat
      have HW1 := Aside0.mk (HBw.out.trans (hbl _ (Nat.le_refl _)))
      clear hat hbl
      go_wp2
      go_roundw
      case rel => exact ⟨k + 1, HK.out, by go_num, ⟨by rw [HU.out]; exact HB1.out⟩, HW1⟩
      case measure => have := HK.out; simp [intOf]; omega
    · have hkl : k = l0.length := by omega
      have HE := Aside0.mk (show weight_Sum.fits (weight_Sum.upto l0 k) = (r1, r2) by
        rw [← HV.out]
        unfold weight_Sum.upto
        rw [hkl, List.take_length])
      have HQ := Aside0.mk (HBD.out k)
      generalize weight_Sum.upto l0 k = q at *
      have t1 : decide ((k : Int) < (l0.length : Int)) = false := decide_eq_false (by omega)
      have t2 : decide (k < l0.length) = false := decide_eq_false hlt
      clear hkl hlt hk
      go_wp2_with fail
      refine (weight_Sum.sum_calls q _ k HQ.out.1 HQ.out.2 _ HBk.out).mono ?_
      rw [HE.out]
      rintro e w1 ⟨rfl, hbel⟩
      have HW1 := Aside0.mk (below_step HBw.out hbel)
      clear hbel
      go_wp2
      go_ret2
      exact ⟨rfl, HW1.out⟩

/-! ### decklelaw07_alive: function 25 -/
def decklelaw07_alive.f  : Option (Bool) := (weight_Sum.f (([9223372036854775807, 1, (-1)] : List Int))).bind fun bt104 => ((weight_Sum.f (([9223372036854775807, 1] : List Int))).bind fun bt109 => (if bt104.2 = 0 then (if bt104.1 = 9223372036854775807 then (some (bt109.2 == 12)) else (some false)) else (some false)))
set_option maxHeartbeats 8000000 in
set_option maxRecDepth 100000 in
theorem decklelaw07_alive.calls  (r : Bool) (w : World) (h : decklelaw07_alive.f  = some r) :
    Calls Try.prog 25 #[] w fun e w' => e = .returned (.bool r) ∧ Below w.heap.size w w' := by
  have HB := Aside0.mk (Below.refl w.heap.size w)
  have H : ((weight_Sum.f (([9223372036854775807, 1, (-1)] : List Int))).bind fun bt104 => ((weight_Sum.f (([9223372036854775807, 1] : List Int))).bind fun bt109 => (if bt104.2 = 0 then (if bt104.1 = 9223372036854775807 then (some (bt109.2 == 12)) else (some false)) else (some false)))) = some r := h
  clear h
  obtain ⟨y101, hy101⟩ : ∃ y_ : List Int, y_ = (([9223372036854775807, 1, (-1)] : List Int)) := ⟨_, rfl⟩
  replace H : ((weight_Sum.f y101).bind fun bt104 => ((weight_Sum.f (([9223372036854775807, 1] : List Int))).bind fun bt109 => (if bt104.2 = 0 then (if bt104.1 = 9223372036854775807 then (some (bt109.2 == 12)) else (some false)) else (some false)))) = some r := by first | (rw [hy101]; with_reducible exact H) | (have H2_ := (Option.bind_some _ _).symm.trans H; rw [hy101]; with_reducible exact H2_) | (have H2_ := (Option.bind_some _ _).symm.trans H; with_reducible exact H2_) | with_reducible exact H | (rw [hy101]; exact H) | exact H
  have Ny101 := Aside0.mk hy101
  clear hy101
  replace H := Option.bind_eq_some_iff.mp H
  obtain ⟨⟨t104, t105⟩, A10, H⟩ := H
  replace H : ((weight_Sum.f (([9223372036854775807, 1] : List Int))).bind fun bt109 => (if t105 = 0 then (if t104 = 9223372036854775807 then (some (bt109.2 == 12)) else (some false)) else (some false))) = some r := H
  have A1 := Aside0.mk A10
  clear A10
  obtain ⟨y106, hy106⟩ : ∃ y_ : List Int, y_ = (([9223372036854775807, 1] : List Int)) := ⟨_, rfl⟩
  replace H : ((weight_Sum.f y106).bind fun bt109 => (if t105 = 0 then (if t104 = 9223372036854775807 then (some (bt109.2 == 12)) else (some false)) else (some false))) = some r := by first | (rw [hy106]; with_reducible exact H) | (have H2_ := (Option.bind_some _ _).symm.trans H; rw [hy106]; with_reducible exact H2_) | (have H2_ := (Option.bind_some _ _).symm.trans H; with_reducible exact H2_) | with_reducible exact H | (rw [hy106]; exact H) | exact H
  have Ny106 := Aside0.mk hy106
  clear hy106
  replace H := Option.bind_eq_some_iff.mp H
  obtain ⟨⟨t109, t110⟩, A20, H⟩ := H
  replace H : (if t105 = 0 then (if t104 = 9223372036854775807 then (some (t110 == 12)) else (some false)) else (some false)) = some r := H
  have A2 := Aside0.mk A20
  clear A20
  by_cases c3 : t105 = 0
  · rw [if_pos c3] at H
    have c3b0 : (t105 == 0) = true := beq_iff_eq.mpr c3
    have c3b1 : (t105 != 0) = false := bne_eq_false_iff_eq.mpr c3
    clear c3
    by_cases c4 : t104 = 9223372036854775807
    · rw [if_pos c4] at H
      have c4b0 : (t104 == 9223372036854775807) = true := beq_iff_eq.mpr c4
      have c4b1 : (t104 != 9223372036854775807) = false := bne_eq_false_iff_eq.mpr c4
      clear c4
      obtain rfl := Option.some.inj H
      go_enter Try.func25, Try.ntmps25
      go_wp2_with (first | ((with_reducible refine gate_dst (N := 6) rfl ?_); refine Kd.R_lit (Kd.int .i64) _ 2 ?hg (N := 6) ?hd (xs := ([9223372036854775807, 1, (-1)] : List Int)) (inner := [.int .i64 9223372036854775807, .int .i64 1, .int .i64 (-1)]) (ok := fun _ => True) (okp := fun _ => True) ?hr ?hp (fun _ hk => hk) trivial (Below.refl _ _) (Nat.le_refl _) (by simp) ?_; (case hd => rfl); (case hg => rfl); (case hr => first | (go_simp; done) | (go_simp; rfl)); (case hp => exact (Reps.one (show Kd.M (Kd.int .i64) _ _ _ 9223372036854775807 [.int .i64 9223372036854775807] from rfl) (Reps.one (show Kd.M (Kd.int .i64) _ _ _ 1 [.int .i64 1] from rfl) (Reps.one (show Kd.M (Kd.int .i64) _ _ _ (-1) [.int .i64 (-1)] from rfl) (Reps.none _ _))))); intro v102 w5 ho6 hb hg_ hnew_; clear hg_ hnew_; (first | rw [← Ny101.out] at ho6 | (simp only [Int.reduceToNat] at ho6; rw [← Ny101.out] at ho6)); have n0_ := Aside0.mk (Kd.R_lower ho6 (below_size (by repeat (first | (with_reducible first | exact HB.out | apply below_alloc | apply pw_below_drewN | apply below_drew1) | exact HB.out)))); have n1_ := Aside0.mk (below_step (by repeat (first | (with_reducible first | exact HB.out | apply below_alloc | apply pw_below_drewN | apply below_drew1) | exact HB.out)) hb); clear HB; have HO103 := n0_; have HB := n1_; clear n0_ n1_; clear hb ho6; obtain ⟨Ao7, co7, eo7⟩ := Kd.R_slice HO103.out; subst eo7) | ((with_reducible refine gate_callee (f := 26) rfl ?_); refine goesL_ (some 7) rfl rfl Try.func26 (by kernel_rfl) rfl #[.slice Ao7 y101.length co7] rfl (by (try simp only [List.map_toArray, List.map_cons, List.map_nil]); first | done | rfl | (simp only [List.length_drop, List.length_take]; rfl)) ?_; (with_reducible refine (weight_Sum.calls _ _ y101 t104 t105 _ ?side1 ?side2 A1.out).mono ?_); (case side1 => repeat (first | exact (Kd.R_reads' HO103.out).2.2 | (with_reducible refine Kd.C_alloc ?_ _) | (with_reducible refine Kd.C_drewN ?_ _) | (with_reducible refine Kd.C_drew ?_))); (case side2 => exact (Kd.R_reads' HO103.out).2.1); rintro e w8 ⟨rfl, hb⟩; refine ⟨_, rfl, ?_⟩; have n0_ := Aside0.mk (Kd.R_below (by (with_reducible repeat (first | apply Kd.R_alloc | apply Kd.R_drewN | apply Kd.R_drew)); exact HO103.out) hb); have n1_ := Aside0.mk (below_step (by repeat (first | (with_reducible first | exact HB.out | apply below_alloc | apply pw_below_drewN | apply below_drew1) | exact HB.out)) hb); clear HO103; clear HB; have HO103 := n0_; have HB := n1_; clear n0_ n1_; (try clear hb); (try clear hb2); (try clear hk); (try clear hi)) | ((with_reducible refine gate_dst (N := 11) rfl ?_); refine Kd.R_lit (Kd.int .i64) _ 2 ?hg (N := 11) ?hd (xs := ([9223372036854775807, 1] : List Int)) (inner := [.int .i64 9223372036854775807, .int .i64 1]) (ok := fun _ => True) (okp := fun _ => True) ?hr ?hp (fun _ hk => hk) trivial (Below.refl _ _) (Nat.le_refl _) (by simp) ?_; (case hd => rfl); (case hg => rfl); (case hr => first | (go_simp; done) | (go_simp; rfl)); (case hp => exact (Reps.one (show Kd.M (Kd.int .i64) _ _ _ 9223372036854775807 [.int .i64 9223372036854775807] from rfl) (Reps.one (show Kd.M (Kd.int .i64) _ _ _ 1 [.int .i64 1] from rfl) (Reps.none _ _)))); intro v107 w9 ho10 hb hg_ hnew_; clear hg_ hnew_; (first | rw [← Ny106.out] at ho10 | (simp only [Int.reduceToNat] at ho10; rw [← Ny106.out] at ho10)); have n0_ := Aside0.mk (Kd.R_elder' (by (with_reducible repeat (first | apply Kd.R_alloc | apply Kd.R_drewN | apply Kd.R_drew)); exact HO103.out) (Kd.R_base ho10) hb); have n1_ := Aside0.mk (Kd.R_lower (Kd.R_new' ho10 (Kd.R_lt (by (with_reducible repeat (first | apply Kd.R_alloc | apply Kd.R_drewN | apply Kd.R_drew)); exact HO103.out))) (below_size (by repeat (first | (with_reducible first | exact HB.out | apply below_alloc | apply pw_below_drewN | apply below_drew1) | exact HB.out)))); have n2_ := Aside0.mk (below_step (by repeat (first | (with_reducible first | exact HB.out | apply below_alloc | apply pw_below_drewN | apply below_drew1) | exact HB.out)) hb); clear HO103; clear HB; have HO103 := n0_; have HO108 := n1_; have HB := n2_; clear n0_ n1_ n2_; clear hb ho10; obtain ⟨Ao11, co11, eo11⟩ := Kd.R_slice HO108.out; subst eo11) | ((with_reducible refine gate_callee (f := 26) rfl ?_); refine goesL_ (some 12) rfl rfl Try.func26 (by kernel_rfl) rfl #[.slice Ao11 y106.length co11] rfl (by (try simp only [List.map_toArray, List.map_cons, List.map_nil]); first | done | rfl | (simp only [List.length_drop, List.length_take]; rfl)) ?_; (with_reducible refine (weight_Sum.calls _ _ y106 t109 t110 _ ?side1 ?side2 A2.out).mono ?_); (case side1 => repeat (first | exact (Kd.R_reads' HO108.out).2.2 | (with_reducible refine Kd.C_alloc ?_ _) | (with_reducible refine Kd.C_drewN ?_ _) | (with_reducible refine Kd.C_drew ?_))); (case side2 => exact (Kd.R_reads' HO108.out).2.1); rintro e w12 ⟨rfl, hb⟩; refine ⟨_, rfl, ?_⟩; have n0_ := Aside0.mk (Kd.R_below (by (with_reducible repeat (first | apply Kd.R_alloc | apply Kd.R_drewN | apply Kd.R_drew)); exact HO103.out) hb); have n1_ := Aside0.mk (Kd.R_below (by (with_reducible repeat (first | apply Kd.R_alloc | apply Kd.R_drewN | apply Kd.R_drew)); exact HO108.out) hb); have n2_ := Aside0.mk (below_step (by repeat (first | (with_reducible first | exact HB.out | apply below_alloc | apply pw_below_drewN | apply below_drew1) | exact HB.out)) hb); clear HO103; clear HO108; clear HB; have HO103 := n0_; have HO108 := n1_; have HB := n2_; clear n0_ n1_ n2_; (try clear hb); (try clear hb2); (try clear hk); (try clear hi)))
      go_ret
      exact ⟨by first | rfl | (simp [errW_none, errW_some] <;> rfl) | (simp [*, errW_none, errW_some] <;> rfl), by repeat (first | (with_reducible first | exact HB.out | apply below_alloc | apply pw_below_drewN | apply below_drew1) | exact HB.out)⟩
    · rw [if_neg c4] at H
      have c4b0 : (t104 == 9223372036854775807) = false := beq_eq_false_iff_ne.mpr c4
      have c4b1 : (t104 != 9223372036854775807) = true := bne_iff_ne.mpr c4
      obtain rfl := Option.some.inj H
      go_enter Try.func25, Try.ntmps25
      go_wp2_with (first | ((with_reducible refine gate_dst (N := 6) rfl ?_); refine Kd.R_lit (Kd.int .i64) _ 2 ?hg (N := 6) ?hd (xs := ([9223372036854775807, 1, (-1)] : List Int)) (inner := [.int .i64 9223372036854775807, .int .i64 1, .int .i64 (-1)]) (ok := fun _ => True) (okp := fun _ => True) ?hr ?hp (fun _ hk => hk) trivial (Below.refl _ _) (Nat.le_refl _) (by simp) ?_; (case hd => rfl); (case hg => rfl); (case hr => first | (go_simp; done) | (go_simp; rfl)); (case hp => exact (Reps.one (show Kd.M (Kd.int .i64) _ _ _ 9223372036854775807 [.int .i64 9223372036854775807] from rfl) (Reps.one (show Kd.M (Kd.int .i64) _ _ _ 1 [.int .i64 1] from rfl) (Reps.one (show Kd.M (Kd.int .i64) _ _ _ (-1) [.int .i64 (-1)] from rfl) (Reps.none _ _))))); intro v102 w13 ho14 hb hg_ hnew_; clear hg_ hnew_; (first | rw [← Ny101.out] at ho14 | (simp only [Int.reduceToNat] at ho14; rw [← Ny101.out] at ho14)); have n0_ := Aside0.mk (Kd.R_lower ho14 (below_size (by repeat (first | (with_reducible first | exact HB.out | apply below_alloc | apply pw_below_drewN | apply below_drew1) | exact HB.out)))); have n1_ := Aside0.mk (below_step (by repeat (first | (with_reducible first | exact HB.out | apply below_alloc | apply pw_below_drewN | apply below_drew1) | exact HB.out)) hb); clear HB; have HO103 := n0_; have HB := n1_; clear n0_ n1_; clear hb ho14; obtain ⟨Ao15, co15, eo15⟩ := Kd.R_slice HO103.out; subst eo15) | ((with_reducible refine gate_callee (f := 26) rfl ?_); refine goesL_ (some 7) rfl rfl Try.func26 (by kernel_rfl) rfl #[.slice Ao15 y101.length co15] rfl (by (try simp only [List.map_toArray, List.map_cons, List.map_nil]); first | done | rfl | (simp only [List.length_drop, List.length_take]; rfl)) ?_; (with_reducible refine (weight_Sum.calls _ _ y101 t104 t105 _ ?side1 ?side2 A1.out).mono ?_); (case side1 => repeat (first | exact (Kd.R_reads' HO103.out).2.2 | (with_reducible refine Kd.C_alloc ?_ _) | (with_reducible refine Kd.C_drewN ?_ _) | (with_reducible refine Kd.C_drew ?_))); (case side2 => exact (Kd.R_reads' HO103.out).2.1); rintro e w16 ⟨rfl, hb⟩; refine ⟨_, rfl, ?_⟩; have n0_ := Aside0.mk (Kd.R_below (by (with_reducible repeat (first | apply Kd.R_alloc | apply Kd.R_drewN | apply Kd.R_drew)); exact HO103.out) hb); have n1_ := Aside0.mk (below_step (by repeat (first | (with_reducible first | exact HB.out | apply below_alloc | apply pw_below_drewN | apply below_drew1) | exact HB.out)) hb); clear HO103; clear HB; have HO103 := n0_; have HB := n1_; clear n0_ n1_; (try clear hb); (try clear hb2); (try clear hk); (try clear hi)) | ((with_reducible refine gate_dst (N := 11) rfl ?_); refine Kd.R_lit (Kd.int .i64) _ 2 ?hg (N := 11) ?hd (xs := ([9223372036854775807, 1] : List Int)) (inner := [.int .i64 9223372036854775807, .int .i64 1]) (ok := fun _ => True) (okp := fun _ => True) ?hr ?hp (fun _ hk => hk) trivial (Below.refl _ _) (Nat.le_refl _) (by simp) ?_; (case hd => rfl); (case hg => rfl); (case hr => first | (go_simp; done) | (go_simp; rfl)); (case hp => exact (Reps.one (show Kd.M (Kd.int .i64) _ _ _ 9223372036854775807 [.int .i64 9223372036854775807] from rfl) (Reps.one (show Kd.M (Kd.int .i64) _ _ _ 1 [.int .i64 1] from rfl) (Reps.none _ _)))); intro v107 w17 ho18 hb hg_ hnew_; clear hg_ hnew_; (first | rw [← Ny106.out] at ho18 | (simp only [Int.reduceToNat] at ho18; rw [← Ny106.out] at ho18)); have n0_ := Aside0.mk (Kd.R_elder' (by (with_reducible repeat (first | apply Kd.R_alloc | apply Kd.R_drewN | apply Kd.R_drew)); exact HO103.out) (Kd.R_base ho18) hb); have n1_ := Aside0.mk (Kd.R_lower (Kd.R_new' ho18 (Kd.R_lt (by (with_reducible repeat (first | apply Kd.R_alloc | apply Kd.R_drewN | apply Kd.R_drew)); exact HO103.out))) (below_size (by repeat (first | (with_reducible first | exact HB.out | apply below_alloc | apply pw_below_drewN | apply below_drew1) | exact HB.out)))); have n2_ := Aside0.mk (below_step (by repeat (first | (with_reducible first | exact HB.out | apply below_alloc | apply pw_below_drewN | apply below_drew1) | exact HB.out)) hb); clear HO103; clear HB; have HO103 := n0_; have HO108 := n1_; have HB := n2_; clear n0_ n1_ n2_; clear hb ho18; obtain ⟨Ao19, co19, eo19⟩ := Kd.R_slice HO108.out; subst eo19) | ((with_reducible refine gate_callee (f := 26) rfl ?_); refine goesL_ (some 12) rfl rfl Try.func26 (by kernel_rfl) rfl #[.slice Ao19 y106.length co19] rfl (by (try simp only [List.map_toArray, List.map_cons, List.map_nil]); first | done | rfl | (simp only [List.length_drop, List.length_take]; rfl)) ?_; (with_reducible refine (weight_Sum.calls _ _ y106 t109 t110 _ ?side1 ?side2 A2.out).mono ?_); (case side1 => repeat (first | exact (Kd.R_reads' HO108.out).2.2 | (with_reducible refine Kd.C_alloc ?_ _) | (with_reducible refine Kd.C_drewN ?_ _) | (with_reducible refine Kd.C_drew ?_))); (case side2 => exact (Kd.R_reads' HO108.out).2.1); rintro e w20 ⟨rfl, hb⟩; refine ⟨_, rfl, ?_⟩; have n0_ := Aside0.mk (Kd.R_below (by (with_reducible repeat (first | apply Kd.R_alloc | apply Kd.R_drewN | apply Kd.R_drew)); exact HO103.out) hb); have n1_ := Aside0.mk (Kd.R_below (by (with_reducible repeat (first | apply Kd.R_alloc | apply Kd.R_drewN | apply Kd.R_drew)); exact HO108.out) hb); have n2_ := Aside0.mk (below_step (by repeat (first | (with_reducible first | exact HB.out | apply below_alloc | apply pw_below_drewN | apply below_drew1) | exact HB.out)) hb); clear HO103; clear HO108; clear HB; have HO103 := n0_; have HO108 := n1_; have HB := n2_; clear n0_ n1_ n2_; (try clear hb); (try clear hb2); (try clear hk); (try clear hi)))
      go_ret
      exact ⟨by first | rfl | (simp [errW_none, errW_some] <;> rfl) | (simp [*, errW_none, errW_some] <;> rfl), by repeat (first | (with_reducible first | exact HB.out | apply below_alloc | apply pw_below_drewN | apply below_drew1) | exact HB.out)⟩
  · rw [if_neg c3] at H
    have c3b0 : (t105 == 0) = false := beq_eq_false_iff_ne.mpr c3
    have c3b1 : (t105 != 0) = true := bne_iff_ne.mpr c3
    obtain rfl := Option.some.inj H
    go_enter Try.func25, Try.ntmps25
    go_wp2_with (first | ((with_reducible refine gate_dst (N := 6) rfl ?_); refine Kd.R_lit (Kd.int .i64) _ 2 ?hg (N := 6) ?hd (xs := ([9223372036854775807, 1, (-1)] : List Int)) (inner := [.int .i64 9223372036854775807, .int .i64 1, .int .i64 (-1)]) (ok := fun _ => True) (okp := fun _ => True) ?hr ?hp (fun _ hk => hk) trivial (Below.refl _ _) (Nat.le_refl _) (by simp) ?_; (case hd => rfl); (case hg => rfl); (case hr => first | (go_simp; done) | (go_simp; rfl)); (case hp => exact (Reps.one (show Kd.M (Kd.int .i64) _ _ _ 9223372036854775807 [.int .i64 9223372036854775807] from rfl) (Reps.one (show Kd.M (Kd.int .i64) _ _ _ 1 [.int .i64 1] from rfl) (Reps.one (show Kd.M (Kd.int .i64) _ _ _ (-1) [.int .i64 (-1)] from rfl) (Reps.none _ _))))); intro v102 w21 ho22 hb hg_ hnew_; clear hg_ hnew_; (first | rw [← Ny101.out] at ho22 | (simp only [Int.reduceToNat] at ho22; rw [← Ny101.out] at ho22)); have n0_ := Aside0.mk (Kd.R_lower ho22 (below_size (by repeat (first | (with_reducible first | exact HB.out | apply below_alloc | apply pw_below_drewN | apply below_drew1) | exact HB.out)))); have n1_ := Aside0.mk (below_step (by repeat (first | (with_reducible first | exact HB.out | apply below_alloc | apply pw_below_drewN | apply below_drew1) | exact HB.out)) hb); clear HB; have HO103 := n0_; have HB := n1_; clear n0_ n1_; clear hb ho22; obtain ⟨Ao23, co23, eo23⟩ := Kd.R_slice HO103.out; subst eo23) | ((with_reducible refine gate_callee (f := 26) rfl ?_); refine goesL_ (some 7) rfl rfl Try.func26 (by kernel_rfl) rfl #[.slice Ao23 y101.length co23] rfl (by (try simp only [List.map_toArray, List.map_cons, List.map_nil]); first | done | rfl | (simp only [List.length_drop, List.length_take]; rfl)) ?_; (with_reducible refine (weight_Sum.calls _ _ y101 t104 t105 _ ?side1 ?side2 A1.out).mono ?_); (case side1 => repeat (first | exact (Kd.R_reads' HO103.out).2.2 | (with_reducible refine Kd.C_alloc ?_ _) | (with_reducible refine Kd.C_drewN ?_ _) | (with_reducible refine Kd.C_drew ?_))); (case side2 => exact (Kd.R_reads' HO103.out).2.1); rintro e w24 ⟨rfl, hb⟩; refine ⟨_, rfl, ?_⟩; have n0_ := Aside0.mk (Kd.R_below (by (with_reducible repeat (first | apply Kd.R_alloc | apply Kd.R_drewN | apply Kd.R_drew)); exact HO103.out) hb); have n1_ := Aside0.mk (below_step (by repeat (first | (with_reducible first | exact HB.out | apply below_alloc | apply pw_below_drewN | apply below_drew1) | exact HB.out)) hb); clear HO103; clear HB; have HO103 := n0_; have HB := n1_; clear n0_ n1_; (try clear hb); (try clear hb2); (try clear hk); (try clear hi)) | ((with_reducible refine gate_dst (N := 11) rfl ?_); refine Kd.R_lit (Kd.int .i64) _ 2 ?hg (N := 11) ?hd (xs := ([9223372036854775807, 1] : List Int)) (inner := [.int .i64 9223372036854775807, .int .i64 1]) (ok := fun _ => True) (okp := fun _ => True) ?hr ?hp (fun _ hk => hk) trivial (Below.refl _ _) (Nat.le_refl _) (by simp) ?_; (case hd => rfl); (case hg => rfl); (case hr => first | (go_simp; done) | (go_simp; rfl)); (case hp => exact (Reps.one (show Kd.M (Kd.int .i64) _ _ _ 9223372036854775807 [.int .i64 9223372036854775807] from rfl) (Reps.one (show Kd.M (Kd.int .i64) _ _ _ 1 [.int .i64 1] from rfl) (Reps.none _ _)))); intro v107 w25 ho26 hb hg_ hnew_; clear hg_ hnew_; (first | rw [← Ny106.out] at ho26 | (simp only [Int.reduceToNat] at ho26; rw [← Ny106.out] at ho26)); have n0_ := Aside0.mk (Kd.R_elder' (by (with_reducible repeat (first | apply Kd.R_alloc | apply Kd.R_drewN | apply Kd.R_drew)); exact HO103.out) (Kd.R_base ho26) hb); have n1_ := Aside0.mk (Kd.R_lower (Kd.R_new' ho26 (Kd.R_lt (by (with_reducible repeat (first | apply Kd.R_alloc | apply Kd.R_drewN | apply Kd.R_drew)); exact HO103.out))) (below_size (by repeat (first | (with_reducible first | exact HB.out | apply below_alloc | apply pw_below_drewN | apply below_drew1) | exact HB.out)))); have n2_ := Aside0.mk (below_step (by repeat (first | (with_reducible first | exact HB.out | apply below_alloc | apply pw_below_drewN | apply below_drew1) | exact HB.out)) hb); clear HO103; clear HB; have HO103 := n0_; have HO108 := n1_; have HB := n2_; clear n0_ n1_ n2_; clear hb ho26; obtain ⟨Ao27, co27, eo27⟩ := Kd.R_slice HO108.out; subst eo27) | ((with_reducible refine gate_callee (f := 26) rfl ?_); refine goesL_ (some 12) rfl rfl Try.func26 (by kernel_rfl) rfl #[.slice Ao27 y106.length co27] rfl (by (try simp only [List.map_toArray, List.map_cons, List.map_nil]); first | done | rfl | (simp only [List.length_drop, List.length_take]; rfl)) ?_; (with_reducible refine (weight_Sum.calls _ _ y106 t109 t110 _ ?side1 ?side2 A2.out).mono ?_); (case side1 => repeat (first | exact (Kd.R_reads' HO108.out).2.2 | (with_reducible refine Kd.C_alloc ?_ _) | (with_reducible refine Kd.C_drewN ?_ _) | (with_reducible refine Kd.C_drew ?_))); (case side2 => exact (Kd.R_reads' HO108.out).2.1); rintro e w28 ⟨rfl, hb⟩; refine ⟨_, rfl, ?_⟩; have n0_ := Aside0.mk (Kd.R_below (by (with_reducible repeat (first | apply Kd.R_alloc | apply Kd.R_drewN | apply Kd.R_drew)); exact HO103.out) hb); have n1_ := Aside0.mk (Kd.R_below (by (with_reducible repeat (first | apply Kd.R_alloc | apply Kd.R_drewN | apply Kd.R_drew)); exact HO108.out) hb); have n2_ := Aside0.mk (below_step (by repeat (first | (with_reducible first | exact HB.out | apply below_alloc | apply pw_below_drewN | apply below_drew1) | exact HB.out)) hb); clear HO103; clear HO108; clear HB; have HO103 := n0_; have HO108 := n1_; have HB := n2_; clear n0_ n1_ n2_; (try clear hb); (try clear hb2); (try clear hk); (try clear hi)))
    go_ret
    exact ⟨by first | rfl | (simp [errW_none, errW_some] <;> rfl) | (simp [*, errW_none, errW_some] <;> rfl), by repeat (first | (with_reducible first | exact HB.out | apply below_alloc | apply pw_below_drewN | apply below_drew1) | exact HB.out)⟩

/-! ### deckleref07_Parts_Plus: function 29 -/
def deckleref07_Parts_Plus.f (a0_0 : Int) (a0_1 : Int) (a1 : Int) : Option (Int × Int) := some (wrap64 ((wrap64 (a0_0 + (a1 / 4294967296))) + (wrap64 (Int.tdiv (wrap64 (a0_1 + (wrap64 (Int.tmod (IntKind.u64.wrap (a1)) 4294967296)))) 4294967296))), Int.tmod (wrap64 (a0_1 + (wrap64 (Int.tmod (IntKind.u64.wrap (a1)) 4294967296)))) 4294967296)
set_option maxHeartbeats 8000000 in
set_option maxRecDepth 100000 in
theorem deckleref07_Parts_Plus.calls (a0_0 : Int) (a0_1 : Int) (a1 : Int) (r1 : Int) (r2 : Int) (w : World) (h : deckleref07_Parts_Plus.f a0_0 a0_1 a1 = some (r1, r2)) :
    Calls Try.prog 29 #[.agg #[.int .i64 a0_0, .int .i64 a0_1], .int .i64 a1] w fun e w' => e = .returned (.agg #[.int .i64 r1, .int .i64 r2]) ∧ Below w.heap.size w w' := by
  have hu55 := Try.underlying55
  have HB := Aside0.mk (Below.refl w.heap.size w)
  have H : (some (wrap64 ((wrap64 (a0_0 + (a1 / 4294967296))) + (wrap64 (Int.tdiv (wrap64 (a0_1 + (wrap64 (Int.tmod (IntKind.u64.wrap (a1)) 4294967296)))) 4294967296))), Int.tmod (wrap64 (a0_1 + (wrap64 (Int.tmod (IntKind.u64.wrap (a1)) 4294967296)))) 4294967296)) = some (r1, r2) := h
  clear h
  simp only [Option.some.injEq, Prod.mk.injEq] at H
  obtain ⟨rfl, rfl⟩ := H
  go_enter Try.func29, Try.ntmps29
  go_wp2_with (first | ((with_reducible refine gate_dst (N := 2) rfl ?_); refine box_event ?hg (N := 2) ?hd (cs := #[.int .i64 a0_0, .int .i64 a0_1]) (t := 55) ?hr ?_; (case hd => rfl); (case hg => rfl); (case hr => first | (go_simp; done) | (go_simp; rfl)); intro gb111 hg w3 hbox hb; have n0_ := Aside0.mk (below_step (by repeat (first | (with_reducible first | exact HB.out | apply below_alloc | apply pw_below_drewN | apply below_drew1) | exact HB.out)) hb); have n1_ := Aside0.mk (hbox); have n2_ := Aside0.mk ((by rw [hg]; exact (below_size (by repeat (first | (with_reducible first | exact HB.out | apply below_alloc | apply pw_below_drewN | apply below_drew1) | exact HB.out))) : w.heap.size ≤ gb111)); have n3_ := Aside0.mk ((by rw [hg]; exact (below_size (by repeat (first | (with_reducible first | exact HB.out | apply below_alloc | apply pw_below_drewN | apply below_drew1) | exact HB.out))) : w.heap.size ≤ gb111)); clear HB; have HB := n0_; have BK111 := n1_; have GW111 := n2_; have GE111 := n3_; clear n0_ n1_ n2_ n3_; clear hb hbox hg) | ((with_reducible refine gate_dst (N := 4) rfl ?_); refine box_event ?hg (N := 4) ?hd (cs := #[.int .i64 0, .int .i64 0]) (t := 55) ?hr ?_; (case hd => rfl); (case hg => rfl); (case hr => first | (go_simp; done) | (go_simp; rfl)); intro gb112 hg w4 hbox hb; have n0_ := Aside0.mk (blk_below (g := gb111) (o := .cells #[.int .i64 a0_0, .int .i64 a0_1] 55 (0, 0)) (by (with_reducible repeat (first | refine blk_drewN ?_ _ | refine blk_drew ?_ | refine blk_alloc ?_ _)); exact BK111.out) hb); have n1_ := Aside0.mk (below_step (by repeat (first | (with_reducible first | exact HB.out | apply below_alloc | apply pw_below_drewN | apply below_drew1 | refine below_set ?_ GE111.out) | exact HB.out)) hb); have n2_ := Aside0.mk (hbox); have n3_ := Aside0.mk ((by rw [hg]; exact (below_size (by repeat (first | (with_reducible first | exact HB.out | apply below_alloc | apply pw_below_drewN | apply below_drew1 | refine below_set ?_ GE111.out) | exact HB.out))) : w.heap.size ≤ gb112)); have n4_ := Aside0.mk ((by rw [hg]; exact (below_size (by repeat (first | (with_reducible first | exact HB.out | apply below_alloc | apply pw_below_drewN | apply below_drew1 | refine below_set ?_ GE111.out) | exact HB.out))) : w.heap.size ≤ gb112)); have n5_ := Aside0.mk ((by rw [hg]; exact Nat.ne_of_lt (blk_lt (g := gb111) (o := .cells #[.int .i64 a0_0, .int .i64 a0_1] 55 (0, 0)) (by (with_reducible repeat (first | refine blk_drewN ?_ _ | refine blk_drew ?_ | refine blk_alloc ?_ _)); exact BK111.out)) : gb111 ≠ gb112)); have n6_ := Aside0.mk ((by rw [hg]; exact Nat.ne_of_gt (blk_lt (g := gb111) (o := .cells #[.int .i64 a0_0, .int .i64 a0_1] 55 (0, 0)) (by (with_reducible repeat (first | refine blk_drewN ?_ _ | refine blk_drew ?_ | refine blk_alloc ?_ _)); exact BK111.out)) : gb112 ≠ gb111)); clear BK111; clear HB; have BK111 := n0_; have HB := n1_; have BK112 := n2_; have GW112 := n3_; have GE112 := n4_; have NB111_112 := n5_; have NB112_111 := n6_; clear n0_ n1_ n2_ n3_ n4_ n5_ n6_; clear hb hbox hg; have hnb5 := NB111_112.out; have hnc5 := NB112_111.out; have hcz6_0 : w4.cell? ⟨gb111, 0, none⟩ = some (.int .i64 a0_0) := (blk_cell BK111.out 0).trans rfl; have hcz6_1 : w4.cell? ⟨gb111, 1, none⟩ = some (.int .i64 a0_1) := (blk_cell BK111.out 1).trans rfl; have hfz6_0 := blk_frozen BK111.out 0; have hfz6_1 := blk_frozen BK111.out 1; have hcz7_0 : w4.cell? ⟨gb112, 0, none⟩ = some (.int .i64 0) := (blk_cell BK112.out 0).trans rfl; have hcz7_1 : w4.cell? ⟨gb112, 1, none⟩ = some (.int .i64 0) := (blk_cell BK112.out 1).trans rfl; have hfz7_0 := blk_frozen BK112.out 0; have hfz7_1 := blk_frozen BK112.out 1))
  refine bodyPost_ret (results_cell_row rfl _ _ gb112 55 #[.int .i64 (wrap64 ((wrap64 (a0_0 + (a1 / 4294967296))) + (wrap64 (Int.tdiv (wrap64 (a0_1 + (wrap64 (Int.tmod (IntKind.u64.wrap (a1)) 4294967296)))) 4294967296)))), .int .i64 (Int.tmod (wrap64 (a0_1 + (wrap64 (Int.tmod (IntKind.u64.wrap (a1)) 4294967296)))) 4294967296)] (0, 0) _ rfl (by (with_reducible repeat (first | refine blk_drewN ?_ _ | refine blk_drew ?_ | refine blk_alloc ?_ _)); refine blk_put (cs := #[.int .i64 (wrap64 ((wrap64 (a0_0 + (a1 / 4294967296))) + (wrap64 (Int.tdiv (wrap64 (a0_1 + (wrap64 (Int.tmod (IntKind.u64.wrap (a1)) 4294967296)))) 4294967296)))), .int .i64 0]) ?_ 1 _ rfl; (with_reducible repeat (first | refine blk_drewN ?_ _ | refine blk_drew ?_ | refine blk_alloc ?_ _)); refine blk_put (cs := #[.int .i64 0, .int .i64 0]) ?_ 0 _ rfl; (with_reducible repeat (first | refine blk_drewN ?_ _ | refine blk_drew ?_ | refine blk_alloc ?_ _)); exact BK112.out) Try.underlying55 rfl (by kernel_rfl)) rfl ?_
  exact ⟨by first | rfl | (simp [errW_none, errW_some] <;> rfl) | (simp [*, errW_none, errW_some] <;> rfl), by repeat (first | (with_reducible first | exact HB.out | apply below_alloc | apply pw_below_drewN | apply below_drew1 | refine below_set ?_ GE111.out | refine below_set ?_ GE112.out) | exact HB.out)⟩

/-! ### deckleref07_Parts_Whole: function 30 -/
def deckleref07_Parts_Whole.f (a0_0 : Int) (a0_1 : Int) : Option (Int × Bool) := if a0_0 < (-2147483648) then (some (0, false)) else (if a0_0 > 2147483647 then (some (0, false)) else (some (wrap64 ((wrap64 (a0_0 * 4294967296)) + a0_1), true)))
set_option maxHeartbeats 8000000 in
set_option maxRecDepth 100000 in
theorem deckleref07_Parts_Whole.calls (a0_0 : Int) (a0_1 : Int) (r1 : Int) (r2 : Bool) (w : World) (h : deckleref07_Parts_Whole.f a0_0 a0_1 = some (r1, r2)) :
    Calls Try.prog 30 #[.agg #[.int .i64 a0_0, .int .i64 a0_1]] w fun e w' => e = .returned (.tuple #[.int .i64 r1, .bool r2]) ∧ Below w.heap.size w w' := by
  have hu55 := Try.underlying55
  have HB := Aside0.mk (Below.refl w.heap.size w)
  have H : (if a0_0 < (-2147483648) then (some (0, false)) else (if a0_0 > 2147483647 then (some (0, false)) else (some (wrap64 ((wrap64 (a0_0 * 4294967296)) + a0_1), true)))) = some (r1, r2) := h
  clear h
  by_cases c2 : a0_0 < (-2147483648)
  · rw [if_pos c2] at H
    have c2b0 : decide (a0_0 < (-2147483648)) = true := decide_eq_true c2
    clear c2
    simp only [Option.some.injEq, Prod.mk.injEq] at H
    obtain ⟨rfl, rfl⟩ := H
    go_enter Try.func30, Try.ntmps30
    go_wp2_with (first | ((with_reducible refine gate_dst (N := 1) rfl ?_); refine box_event ?hg (N := 1) ?hd (cs := #[.int .i64 a0_0, .int .i64 a0_1]) (t := 55) ?hr ?_; (case hd => rfl); (case hg => rfl); (case hr => first | (go_simp; done) | (go_simp; rfl)); intro gb113 hg w3 hbox hb; have n0_ := Aside0.mk (below_step (by repeat (first | (with_reducible first | exact HB.out | apply below_alloc | apply pw_below_drewN | apply below_drew1) | exact HB.out)) hb); have n1_ := Aside0.mk (hbox); have n2_ := Aside0.mk ((by rw [hg]; exact (below_size (by repeat (first | (with_reducible first | exact HB.out | apply below_alloc | apply pw_below_drewN | apply below_drew1) | exact HB.out))) : w.heap.size ≤ gb113)); have n3_ := Aside0.mk ((by rw [hg]; exact (below_size (by repeat (first | (with_reducible first | exact HB.out | apply below_alloc | apply pw_below_drewN | apply below_drew1) | exact HB.out))) : w.heap.size ≤ gb113)); clear HB; have HB := n0_; have BK113 := n1_; have GW113 := n2_; have GE113 := n3_; clear n0_ n1_ n2_ n3_; clear hb hbox hg; have hcz4_0 : w3.cell? ⟨gb113, 0, none⟩ = some (.int .i64 a0_0) := (blk_cell BK113.out 0).trans rfl; have hcz4_1 : w3.cell? ⟨gb113, 1, none⟩ = some (.int .i64 a0_1) := (blk_cell BK113.out 1).trans rfl; have hfz4_0 := blk_frozen BK113.out 0; have hfz4_1 := blk_frozen BK113.out 1))
    go_ret2
    exact ⟨by first | rfl | (simp [errW_none, errW_some] <;> rfl) | (simp [*, errW_none, errW_some] <;> rfl), by repeat (first | (with_reducible first | exact HB.out | apply below_alloc | apply pw_below_drewN | apply below_drew1 | refine below_set ?_ GE113.out) | exact HB.out)⟩
  · rw [if_neg c2] at H
    have c2b0 : decide (a0_0 < (-2147483648)) = false := decide_eq_false c2
    clear c2
    by_cases c5 : a0_0 > 2147483647
    · rw [if_pos c5] at H
      have c5b0 : decide (2147483647 < a0_0) = true := decide_eq_true c5
      clear c5
      simp only [Option.some.injEq, Prod.mk.injEq] at H
      obtain ⟨rfl, rfl⟩ := H
      go_enter Try.func30, Try.ntmps30
      go_wp2_with (first | ((with_reducible refine gate_dst (N := 1) rfl ?_); refine box_event ?hg (N := 1) ?hd (cs := #[.int .i64 a0_0, .int .i64 a0_1]) (t := 55) ?hr ?_; (case hd => rfl); (case hg => rfl); (case hr => first | (go_simp; done) | (go_simp; rfl)); intro gb113 hg w6 hbox hb; have n0_ := Aside0.mk (below_step (by repeat (first | (with_reducible first | exact HB.out | apply below_alloc | apply pw_below_drewN | apply below_drew1) | exact HB.out)) hb); have n1_ := Aside0.mk (hbox); have n2_ := Aside0.mk ((by rw [hg]; exact (below_size (by repeat (first | (with_reducible first | exact HB.out | apply below_alloc | apply pw_below_drewN | apply below_drew1) | exact HB.out))) : w.heap.size ≤ gb113)); have n3_ := Aside0.mk ((by rw [hg]; exact (below_size (by repeat (first | (with_reducible first | exact HB.out | apply below_alloc | apply pw_below_drewN | apply below_drew1) | exact HB.out))) : w.heap.size ≤ gb113)); clear HB; have HB := n0_; have BK113 := n1_; have GW113 := n2_; have GE113 := n3_; clear n0_ n1_ n2_ n3_; clear hb hbox hg; have hcz7_0 : w6.cell? ⟨gb113, 0, none⟩ = some (.int .i64 a0_0) := (blk_cell BK113.out 0).trans rfl; have hcz7_1 : w6.cell? ⟨gb113, 1, none⟩ = some (.int .i64 a0_1) := (blk_cell BK113.out 1).trans rfl; have hfz7_0 := blk_frozen BK113.out 0; have hfz7_1 := blk_frozen BK113.out 1))
      go_ret2
      exact ⟨by first | rfl | (simp [errW_none, errW_some] <;> rfl) | (simp [*, errW_none, errW_some] <;> rfl), by repeat (first | (with_reducible first | exact HB.out | apply below_alloc | apply pw_below_drewN | apply below_drew1 | refine below_set ?_ GE113.out) | exact HB.out)⟩
    · rw [if_neg c5] at H
      have c5b0 : decide (2147483647 < a0_0) = false := decide_eq_false c5
      clear c5
      simp only [Option.some.injEq, Prod.mk.injEq] at H
      obtain ⟨rfl, rfl⟩ := H
      go_enter Try.func30, Try.ntmps30
      go_wp2_with (first | ((with_reducible refine gate_dst (N := 1) rfl ?_); refine box_event ?hg (N := 1) ?hd (cs := #[.int .i64 a0_0, .int .i64 a0_1]) (t := 55) ?hr ?_; (case hd => rfl); (case hg => rfl); (case hr => first | (go_simp; done) | (go_simp; rfl)); intro gb113 hg w8 hbox hb; have n0_ := Aside0.mk (below_step (by repeat (first | (with_reducible first | exact HB.out | apply below_alloc | apply pw_below_drewN | apply below_drew1) | exact HB.out)) hb); have n1_ := Aside0.mk (hbox); have n2_ := Aside0.mk ((by rw [hg]; exact (below_size (by repeat (first | (with_reducible first | exact HB.out | apply below_alloc | apply pw_below_drewN | apply below_drew1) | exact HB.out))) : w.heap.size ≤ gb113)); have n3_ := Aside0.mk ((by rw [hg]; exact (below_size (by repeat (first | (with_reducible first | exact HB.out | apply below_alloc | apply pw_below_drewN | apply below_drew1) | exact HB.out))) : w.heap.size ≤ gb113)); clear HB; have HB := n0_; have BK113 := n1_; have GW113 := n2_; have GE113 := n3_; clear n0_ n1_ n2_ n3_; clear hb hbox hg; have hcz9_0 : w8.cell? ⟨gb113, 0, none⟩ = some (.int .i64 a0_0) := (blk_cell BK113.out 0).trans rfl; have hcz9_1 : w8.cell? ⟨gb113, 1, none⟩ = some (.int .i64 a0_1) := (blk_cell BK113.out 1).trans rfl; have hfz9_0 := blk_frozen BK113.out 0; have hfz9_1 := blk_frozen BK113.out 1))
      go_ret2
      exact ⟨by first | rfl | (simp [errW_none, errW_some] <;> rfl) | (simp [*, errW_none, errW_some] <;> rfl), by repeat (first | (with_reducible first | exact HB.out | apply below_alloc | apply pw_below_drewN | apply below_drew1 | refine below_set ?_ GE113.out) | exact HB.out)⟩

/-! ### deckleref07_Sum: function 28 -/
def deckleref07_Sum.l0 : Nat → List Int → Int → Int → Int → Option (Int × Int)
  | 0, _, _, _, _ => none
  | k + 1, x0, x5, x115000, x115001 => if x5 < (x0.length : Int) then (if 0 ≤ x5 then ((deckleref07_Parts_Plus.f x115000 x115001 (rd x0 x5)).bind fun bt116 => (deckleref07_Sum.l0 k x0 (wrap64 (x5 + 1)) bt116.1 bt116.2)) else (none)) else ((deckleref07_Parts_Whole.f x115000 x115001).bind fun bt118 => (if bt118.2 = true then (some (bt118.1, 0)) else (some (0, 12))))
def deckleref07_Sum.f (k : Nat) (l0 : List Int) : Option (Int × Int) := deckleref07_Sum.l0 k l0 0 0 0
theorem deckleref07_Sum.mono_l : ∀ k, (∀ y0 y1 y2 y3, LeO (deckleref07_Sum.l0 k y0 y1 y2 y3) (deckleref07_Sum.l0 (k + 1) y0 y1 y2 y3))
  | 0 => fun _ _ _ _ r h => by simp [deckleref07_Sum.l0] at h
  | k + 1 => by
    have ih0 := deckleref07_Sum.mono_l k
    · intro y0 y1 y2 y3
      unfold deckleref07_Sum.l0
      repeat' first
      | (with_reducible exact ih0 _ _ _ _)
      | (with_reducible exact LeO.refl _)
      | (with_reducible exact LeO.none _)
      | (with_reducible refine LeO.ite ?_ ?_)
      | (with_reducible refine LeO.bind ?_ (fun _ => ?_))
      | exact ih0 _ _ _ _
      | exact LeO.none _
      | refine LeO.ite ?_ ?_
      | refine LeO.bind ?_ (fun _ => ?_)
theorem deckleref07_Sum.mono : ∀ a0 k, LeO (deckleref07_Sum.f k a0) (deckleref07_Sum.f (k + 1) a0) := by
  intro a0 k
  have ih0 := deckleref07_Sum.mono_l k
  unfold deckleref07_Sum.f
  repeat' first
      | (with_reducible exact ih0 _ _ _ _)
      | (with_reducible exact LeO.refl _)
      | (with_reducible exact LeO.none _)
      | (with_reducible refine LeO.ite ?_ ?_)
      | (with_reducible refine LeO.bind ?_ (fun _ => ?_))
      | exact ih0 _ _ _ _
      | exact LeO.none _
      | refine LeO.ite ?_ ?_
      | refine LeO.bind ?_ (fun _ => ?_)
set_option maxHeartbeats 8000000 in
set_option maxRecDepth 100000 in
theorem deckleref07_Sum.calls (k : Nat) (A0 : Option Addr) (c0 : Nat) (l0 : List Int) (r1 : Int) (r2 : Int) (w : World) (hr0 : Kd.C (Kd.int .i64) w A0 l0.length l0) (hc0 : l0.length ≤ c0) (h : deckleref07_Sum.f k l0 = some (r1, r2)) :
    Calls Try.prog 28 #[.slice A0 l0.length c0] w fun e w' => e = .returned (.tuple #[.int .i64 r1, .int .i64 r2]) ∧ Below w.heap.size w w' := by
  have hu55 := Try.underlying55
  have HR0 := Aside0.mk hr0
  have HC0 := Aside0.mk hc0
  clear hr0 hc0
  have HB := Aside0.mk (Below.refl w.heap.size w)
  have H : (deckleref07_Sum.l0 k l0 0 0 0) = some (r1, r2) := h
  clear h
  have H' := Aside0.mk H
  clear H
  go_enter Try.func28, Try.ntmps28
  go_wp2_with (first | ((with_reducible refine gate_dst (N := 4) rfl ?_); refine box_event ?hg (N := 4) ?hd (cs := #[.int .i64 0, .int .i64 0]) (t := 55) ?hr ?_; (case hd => rfl); (case hg => rfl); (case hr => first | (go_simp; done) | (go_simp; rfl)); intro gb114 hg w2 hbox hb; have n0_ := Aside0.mk (below_step (by repeat (first | (with_reducible first | exact HB.out | apply below_alloc | apply pw_below_drewN | apply below_drew1) | exact HB.out)) hb); have n1_ := Aside0.mk (hbox); have n2_ := Aside0.mk ((by rw [hg]; exact (below_size (by repeat (first | (with_reducible first | exact HB.out | apply below_alloc | apply pw_below_drewN | apply below_drew1) | exact HB.out))) : w.heap.size ≤ gb114)); have n3_ := Aside0.mk ((by rw [hg]; exact (below_size (by repeat (first | (with_reducible first | exact HB.out | apply below_alloc | apply pw_below_drewN | apply below_drew1) | exact HB.out))) : w.heap.size ≤ gb114)); clear HB; have HB := n0_; have BK114 := n1_; have GW114 := n2_; have GE114 := n3_; clear n0_ n1_ n2_ n3_; clear hb hbox hg; have hcz3_0 : w2.cell? ⟨gb114, 0, none⟩ = some (.int .i64 0) := (blk_cell BK114.out 0).trans rfl; have hcz3_1 : w2.cell? ⟨gb114, 1, none⟩ = some (.int .i64 0) := (blk_cell BK114.out 1).trans rfl; have hfz3_0 := blk_frozen BK114.out 0; have hfz3_1 := blk_frozen BK114.out 1))
  go_loopg [5] k (fun kq v5 w' => ∃ (x5_1 : Int) (x115000_1 : Int) (x115001_1 : Int), v5 = .int .i64 x5_1 ∧ Aside0 (deckleref07_Sum.l0 kq l0 x5_1 x115000_1 x115001_1 = some (r1, r2)) ∧ Aside0 (kq ≤ k) ∧ Aside0 (w'.heap[gb114]? = some (.cells #[.int .i64 x115000_1, .int .i64 x115001_1] 55 (0, 0))) ∧ Aside0 (Below w.heap.size w w'))
  case atStart => exact ⟨(0), (0), (0), (by first | rfl | (simp; done) | (simp [*]; done)), H', ⟨Nat.le_refl _⟩, ⟨by (with_reducible repeat (first | refine blk_drewN ?_ _ | refine blk_drew ?_ | refine blk_alloc ?_ _)); refine blk_put (cs := #[.int .i64 0, .int .i64 0]) ?_ 1 _ rfl; (with_reducible repeat (first | refine blk_drewN ?_ _ | refine blk_drew ?_ | refine blk_alloc ?_ _)); refine blk_put (cs := #[.int .i64 0, .int .i64 0]) ?_ 0 _ rfl; (with_reducible repeat (first | refine blk_drewN ?_ _ | refine blk_drew ?_ | refine blk_alloc ?_ _)); exact BK114.out⟩, ⟨by repeat (first | (with_reducible first | exact HB.out | apply below_alloc | apply pw_below_drewN | apply below_drew1 | refine below_set ?_ GE114.out) | exact HB.out)⟩⟩
  case round =>
    clear H'
    try clear c2
    try clear p2
    try clear hcz3_0
    try clear hcz3_1
    try clear hfz3_0
    try clear hfz3_1
    obtain ⟨x5_1, x115000_1, x115001_1, rfl, HA, HK1, BK114, HB⟩ := hrel
    cases gk with
    | zero => exact absurd HA.out (by simp [deckleref07_Sum.l0])
    | succ k1 =>
      have H := HA.out
      clear HA
      simp only [deckleref07_Sum.l0] at H
      by_cases c4 : x5_1 < (l0.length : Int)
      · rw [if_pos c4] at H
        have c4b0 : decide (x5_1 < (l0.length : Int)) = true := decide_eq_true c4
        clear c4
        by_cases c5 : 0 ≤ x5_1
        · rw [if_pos c5] at H
          have c5b0 : decide (0 ≤ x5_1) = true := decide_eq_true c5
          clear c5
          replace H := Option.bind_eq_some_iff.mp H
          obtain ⟨⟨t116, t117⟩, A60, H⟩ := H
          replace H : (deckleref07_Sum.l0 k1 l0 (wrap64 (x5_1 + 1)) t116 t117) = some (r1, r2) := H
          have A6 := Aside0.mk A60
          clear A60
          have H' := Aside0.mk H
          clear H
          try go_wp2
          have n0_ := Aside0.mk (blk_drew BK114.out)
          have n1_ := Aside0.mk (below_drew1 HB.out)
          clear BK114
          clear HB
          have BK114 := n0_
          have HB := n1_
          clear n0_ n1_
          have p115 : 0 ≤ (x5_1 : Int) := of_decide_eq_true (by first | (with_reducible assumption) | assumption)
          have q115 : x5_1 < (l0.length : Int) := of_decide_eq_true (by first | (with_reducible assumption) | assumption)
          obtain ⟨ad115, e115, hx115_0⟩ := Kd.at_int HR0.out x5_1 p115 q115
          have hw115_0 := hx115_0
          cases e115
          replace hx115_0 := (HB.out.cell (World.block_lt_of_cell? w _ hx115_0)).trans hx115_0
          replace p115 := eq_true p115
          replace q115 := eq_true q115
          refine start_ (n := 7) (S := fun w' => w'.cell? ⟨gb114, 0, none⟩ = some (.int .i64 x115000_1) ∧ w'.cell? ⟨gb114, 1, none⟩ = some (.int .i64 x115001_1) ∧ w'.cell? (ad115.add (x5_1).toNat) = some (.int .i64 (rd l0 x5_1))) (ds := [6]) #[false, false, false, false, false, false, false] (by kernel_rfl) rfl rfl ⟨(blk_cell BK114.out 0).trans rfl, (blk_cell BK114.out 1).trans rfl, ((HB.out.cell (World.block_lt_of_cell? w _ hw115_0)).trans hw115_0)⟩ (fun hHeld => ?_)
          generalize wr.drew = w7 at BK114 HB hx115_0 hHeld ⊢
          refine pure_ (i := 1) (N := some 16) (v := ?_) (a' := ?_) #[false, true, false, false, false, false, false] rfl rfl (by kernel_rfl) (fun _ _ _ h => h) (Or.inl ⟨by rfl, ?_⟩) ?_ ?_
          rotate_left
          · intro w'
            go_simp
            with_reducible rfl
          rotate_left
          · simp only [Act.put, List.setIfInBounds_toArray, List.set_cons_zero, List.set_cons_succ, i64_w, i32_w]
            rfl
          refine pure_ (i := 2) (N := some 17) (v := ?_) (a' := ?_) #[false, true, true, false, false, false, false] rfl rfl (by kernel_rfl) (fun _ _ _ h => h) (Or.inl ⟨by rfl, ?_⟩) ?_ ?_
          rotate_left
          · intro w'
            go_simp
            with_reducible rfl
          rotate_left
          · simp only [Act.put, List.setIfInBounds_toArray, List.set_cons_zero, List.set_cons_succ, i64_w, i32_w]
            rfl
          refine pure_ (i := 3) (N := some 18) (v := ?_) (a' := ?_) #[false, true, true, true, false, false, false] rfl rfl (by kernel_rfl) (fun _ _ _ h => h) (Or.inl ⟨by rfl, ?_⟩) ?_ ?_
          rotate_left
          · intro w'
            go_simp
            with_reducible rfl
          rotate_left
          · simp only [Act.put, List.setIfInBounds_toArray, List.set_cons_zero, List.set_cons_succ, i64_w, i32_w]
            rfl
          refine take_ (i := 0) (N := some 15) (v := ?_) (a' := ?_) #[true, true, true, true, false, false, false] rfl rfl (by kernel_rfl) (fun _ _ _ h => h) (Or.inl ⟨by rfl, ?_⟩) hHeld ?_ ?_
          rotate_left
          · rintro w' ⟨s0, s1, s2⟩
            go_simp
            with_reducible rfl
          rotate_left
          · simp only [Act.put, List.setIfInBounds_toArray, List.set_cons_zero, List.set_cons_succ, i64_w, i32_w]
            rfl
          refine take_ (i := 4) (N := some 19) (v := ?_) (a' := ?_) #[true, true, true, true, true, false, false] rfl rfl (by kernel_rfl) (fun _ _ _ h => h) (Or.inl ⟨by rfl, ?_⟩) hHeld ?_ ?_
          rotate_left
          · rintro w' ⟨s0, s1, s2⟩
            go_simp
            with_reducible rfl
          rotate_left
          · simp only [Act.put, List.setIfInBounds_toArray, List.set_cons_zero, List.set_cons_succ, i64_w, i32_w]
            rfl
          refine one_ (i := 5) (N := some 20) #[true, true, true, true, true, true, false] rfl rfl (by kernel_rfl) (by decide) (fun K hK => ?_)
          refine goes_ Try.func29 (by kernel_rfl) rfl #[.agg #[.int .i64 x115000_1, .int .i64 x115001_1], .int .i64 (rd l0 x5_1)] (by rfl) rfl rfl (by (try simp only [List.map_toArray, List.map_cons, List.map_nil]); first | done | rfl | (simp only [List.length_drop, List.length_take]; rfl)) ?_
          with_reducible refine (deckleref07_Parts_Plus.calls x115000_1 x115001_1 (rd l0 x5_1) t116 t117 _ A6.out).mono ?_
          rintro e w8 ⟨rfl, hb⟩
          refine ⟨_, rfl, ?_⟩
          have n0_ := Aside0.mk (blk_below (g := gb114) (o := .cells #[.int .i64 x115000_1, .int .i64 x115001_1] 55 (0, 0)) (by (with_reducible repeat (first | refine blk_drewN ?_ _ | refine blk_drew ?_ | refine blk_alloc ?_ _)); exact BK114.out) hb)
          have n1_ := Aside0.mk (below_step (by repeat (first | (with_reducible first | exact HB.out | apply below_alloc | apply pw_below_drewN | apply below_drew1 | refine below_set ?_ GE114.out) | exact HB.out)) hb)
          clear BK114
          clear HB
          have BK114 := n0_
          have HB := n1_
          clear n0_ n1_
          (try clear hb)
          (try clear hb2)
          (try clear hk)
          (try clear hi)
          refine hK.out _ _ ⟨(blk_cell BK114.out 0).trans rfl, (blk_cell BK114.out 1).trans rfl, ((HB.out.cell (World.block_lt_of_cell? w _ hw115_0)).trans hw115_0)⟩ (fun hHeld => ?_)
          clear hK K
          refine norm_ (a' := ?_) ?_ ?_
          rotate_left
          · show Act.put _ (some 20) _ = _
            simp only [Act.put, List.setIfInBounds_toArray, List.set_cons_zero, List.set_cons_succ, i64_w, i32_w]
            rfl
          refine last_ (i := 6) (N := none) #[true, true, true, true, true, true, true] rfl rfl (by kernel_rfl) (by decide) (fun K hK => ?_)
          have hs9 : w8.cell? ⟨gb114, 0, none⟩ = some (.int .i64 x115000_1) := (blk_cell BK114.out 0).trans rfl
          have hfs9 := blk_frozen BK114.out 0
          have hs10 : w8.cell? ⟨gb114, 1, none⟩ = some (.int .i64 x115001_1) := (blk_cell BK114.out 1).trans rfl
          have hfs10 := blk_frozen BK114.out 1
          refine skip_ (w1 := ?_) (by rfl) rfl ?_ ?_
          rotate_left
          · go_simp
            rfl
          refine hK.out _ _ ?_
          clear hK K
          refine done_ (by kernel_rfl) ?_
          try go_wp2
          go_roundg k1
          case measure => have := HK1.out; omega
          case rel => exact ⟨(wrap64 (x5_1 + 1)), (t116), (t117), (by first | rfl | (simp; done) | (simp [*]; done)), H', ⟨by have := HK1.out; omega⟩, ⟨by (with_reducible repeat (first | refine blk_drewN ?_ _ | refine blk_drew ?_ | refine blk_alloc ?_ _)); refine blk_put (cs := #[.int .i64 t116, .int .i64 x115001_1]) ?_ 1 _ rfl; (with_reducible repeat (first | refine blk_drewN ?_ _ | refine blk_drew ?_ | refine blk_alloc ?_ _)); refine blk_put (cs := #[.int .i64 x115000_1, .int .i64 x115001_1]) ?_ 0 _ rfl; (with_reducible repeat (first | refine blk_drewN ?_ _ | refine blk_drew ?_ | refine blk_alloc ?_ _)); exact BK114.out⟩, ⟨by repeat (first | (with_reducible first | exact HB.out | apply below_alloc | apply pw_below_drewN | apply below_drew1 | refine below_set ?_ GE114.out) | exact HB.out)⟩⟩
        · rw [if_neg c5] at H
          exact absurd H (by simp)
      · rw [if_neg c4] at H
        have c4b0 : decide (x5_1 < (l0.length : Int)) = false := decide_eq_false c4
        clear c4
        replace H := Option.bind_eq_some_iff.mp H
        obtain ⟨⟨t118, t119⟩, A110, H⟩ := H
        replace H : (if t119 = true then (some (t118, 0)) else (some (0, 12))) = some (r1, r2) := H
        have A11 := Aside0.mk A110
        clear A110
        by_cases c12 : t119 = true
        · subst c12
          have H1 : (some (t118, 0)) = some (r1, r2) := by rw [if_pos rfl] at H; exact H
          clear H
          have H := H1
          clear H1
          simp only [Option.some.injEq, Prod.mk.injEq] at H
          obtain ⟨rfl, rfl⟩ := H
          have hcz13_0 : wr.cell? ⟨gb114, 0, none⟩ = some (.int .i64 x115000_1) := (blk_cell BK114.out 0).trans rfl
          have hcz13_1 : wr.cell? ⟨gb114, 1, none⟩ = some (.int .i64 x115001_1) := (blk_cell BK114.out 1).trans rfl
          have hfz13_0 := blk_frozen BK114.out 0
          have hfz13_1 := blk_frozen BK114.out 1
          go_wp2_with (first | ((with_reducible refine gate_callee (f := 30) rfl ?_); refine goesL_ (some 23) rfl rfl Try.func30 (by kernel_rfl) rfl #[.agg #[.int .i64 x115000_1, .int .i64 x115001_1]] rfl (by (try simp only [List.map_toArray, List.map_cons, List.map_nil]); first | done | rfl | (simp only [List.length_drop, List.length_take]; rfl)) ?_; (with_reducible refine (deckleref07_Parts_Whole.calls x115000_1 x115001_1 t118 true _ A11.out).mono ?_); rintro e w14 ⟨rfl, hb⟩; refine ⟨_, rfl, ?_⟩; have n0_ := Aside0.mk (blk_below (g := gb114) (o := .cells #[.int .i64 x115000_1, .int .i64 x115001_1] 55 (0, 0)) (by (with_reducible repeat (first | refine blk_drewN ?_ _ | refine blk_drew ?_ | refine blk_alloc ?_ _)); exact BK114.out) hb); have n1_ := Aside0.mk (below_step (by repeat (first | (with_reducible first | exact HB.out | apply below_alloc | apply pw_below_drewN | apply below_drew1 | refine below_set ?_ GE114.out) | exact HB.out)) hb); clear BK114; clear HB; have BK114 := n0_; have HB := n1_; clear n0_ n1_; (try clear hb); (try clear hb2); (try clear hk); (try clear hi)))
          go_ret2
          exact ⟨by first | rfl | (simp [errW_none, errW_some] <;> rfl) | (simp [*, errW_none, errW_some] <;> rfl), by repeat (first | (with_reducible first | exact HB.out | apply below_alloc | apply pw_below_drewN | apply below_drew1 | refine below_set ?_ GE114.out) | exact HB.out)⟩
        · replace c12 := Bool.eq_false_iff.mpr c12
          subst c12
          have H1 : (some (0, 12)) = some (r1, r2) := by rw [if_neg (show ¬ (false = true) by decide)] at H; exact H
          clear H
          have H := H1
          clear H1
          simp only [Option.some.injEq, Prod.mk.injEq] at H
          obtain ⟨rfl, rfl⟩ := H
          have hcz15_0 : wr.cell? ⟨gb114, 0, none⟩ = some (.int .i64 x115000_1) := (blk_cell BK114.out 0).trans rfl
          have hcz15_1 : wr.cell? ⟨gb114, 1, none⟩ = some (.int .i64 x115001_1) := (blk_cell BK114.out 1).trans rfl
          have hfz15_0 := blk_frozen BK114.out 0
          have hfz15_1 := blk_frozen BK114.out 1
          go_wp2_with (first | ((with_reducible refine gate_callee (f := 30) rfl ?_); refine goesL_ (some 23) rfl rfl Try.func30 (by kernel_rfl) rfl #[.agg #[.int .i64 x115000_1, .int .i64 x115001_1]] rfl (by (try simp only [List.map_toArray, List.map_cons, List.map_nil]); first | done | rfl | (simp only [List.length_drop, List.length_take]; rfl)) ?_; (with_reducible refine (deckleref07_Parts_Whole.calls x115000_1 x115001_1 t118 false _ A11.out).mono ?_); rintro e w16 ⟨rfl, hb⟩; refine ⟨_, rfl, ?_⟩; have n0_ := Aside0.mk (blk_below (g := gb114) (o := .cells #[.int .i64 x115000_1, .int .i64 x115001_1] 55 (0, 0)) (by (with_reducible repeat (first | refine blk_drewN ?_ _ | refine blk_drew ?_ | refine blk_alloc ?_ _)); exact BK114.out) hb); have n1_ := Aside0.mk (below_step (by repeat (first | (with_reducible first | exact HB.out | apply below_alloc | apply pw_below_drewN | apply below_drew1 | refine below_set ?_ GE114.out) | exact HB.out)) hb); clear BK114; clear HB; have BK114 := n0_; have HB := n1_; clear n0_ n1_; (try clear hb); (try clear hb2); (try clear hk); (try clear hi)))
          go_ret2
          exact ⟨by first | rfl | (simp [errW_none, errW_some] <;> rfl) | (simp [*, errW_none, errW_some] <;> rfl), by repeat (first | (with_reducible first | exact HB.out | apply below_alloc | apply pw_below_drewN | apply below_drew1 | refine below_set ?_ GE114.out) | exact HB.out)⟩

-- NOT PRINTED: function 47 (bits_Add64)

-- NOT PRINTED: function 42 (weight_wide_plus)

-- NOT PRINTED: function 31 (weight_Total_Add)

/-! ### weight_Total_Count: function 32 -/
def weight_Total_Count.f : Option Int := none
set_option maxRecDepth 100000 in
theorem weight_Total_Count.count_calls (S : Int) (g n : Nat) (W : World) (hg : weight_Sum.At W g S n) :
    Calls Try.prog 32 #[.pointer (some ⟨g, 0, none⟩)] W fun e w' => e = .returned (.int .i64 (n : Int)) ∧ W = w' := by
  have hb : W.heap[g]? = some (.cells #[.int .u64 (weight_Sum.lo S : Nat), .int .u64 (weight_Sum.hi S : Nat), .int .i64 (n : Int)] 53 (0, 0)) := hg
  have c2 : W.cell? ⟨g, 2, none⟩ = some (.int .i64 (n : Int)) := (blk_cell hb 2).trans rfl
  clear hg hb
  go_enter Try.func32, Try.ntmps32
  go_wp2
  go_ret
  exact ⟨rfl, rfl⟩
set_option maxRecDepth 100000 in
theorem weight_Total_Count.nil_calls (W : World) : Calls Try.prog 32 #[.pointer none] W fun e w' => e = .returned (.int .i64 0) ∧ W = w' := by
  go_enter Try.func32, Try.ntmps32
  go_wp2
  go_ret
  exact ⟨rfl, rfl⟩
set_option maxRecDepth 100000 in
theorem weight_Total_Count.nil_add (a : Int) (W : World) : Calls Try.prog 31 #[.pointer none, .int .i64 a] W fun e w' => e = .returned (.int .i64 1) ∧ W = w' := by
  go_enter Try.func31, Try.ntmps31
  go_wp2
  go_ret
  exact ⟨rfl, rfl⟩
set_option maxRecDepth 100000 in
theorem weight_Total_Count.nil_sum (W : World) : Calls Try.prog 33 #[.pointer none] W fun e w' => e = .returned (.tuple #[.int .i64 0, .int .i64 1]) ∧ W = w' := by
  go_enter Try.func33, Try.ntmps33
  go_wp2
  go_ret2
  exact ⟨rfl, rfl⟩

-- NOT PRINTED: function 43 (weight_wide_weight)

-- NOT PRINTED: function 33 (weight_Total_Sum)

/-! ### decklelaw07_WeightSums: function 11 -/
def decklelaw07_WeightSums.at (l : List Int) (i : Nat) : Int × Int := weight_Sum.fits (weight_Sum.upto l i)
/-- What the walk asks of the plain functions. -/
structure decklelaw07_WeightSums.Ok (k : Nat) (l : List Int) : Prop where
  alive : decklelaw07_alive.f = some true
  ws : ∀ c ∈ l, -9223372036854775808 ≤ c ∧ c ≤ 9223372036854775807
  ref : l.length ≤ 2000 → deckleref07_Sum.f k l = some (weight_Sum.fits l.sum)
  parts : l.length ≤ 2000 → ∃ p : Nat → Int × Int, p 0 = (0, 0) ∧ ∀ i (h : i < l.length), deckleref07_Parts_Plus.f (p i).1 (p i).2 l[i] = some (p (i + 1)) ∧
    deckleref07_Parts_Whole.f (p (i + 1)).1 (p (i + 1)).2 = some ((decklelaw07_WeightSums.at l (i + 1)).1, decide ((decklelaw07_WeightSums.at l (i + 1)).2 = 0))
noncomputable def decklelaw07_WeightSums.f (k : Nat) (l0 : List Int) : Option Bool := @ite _ (decklelaw07_WeightSums.Ok k l0) (Classical.propDecidable _) (some true) none
theorem decklelaw07_WeightSums.fits_two (S : Int) : (weight_Sum.fits S).2 = 0 ∨ (weight_Sum.fits S).2 = 12 := by
  unfold weight_Sum.fits
  split
  · exact .inl rfl
  · exact .inr rfl
set_option maxHeartbeats 8000000 in
set_option maxRecDepth 100000 in
theorem decklelaw07_WeightSums.calls (k : Nat) (A0 : Option Addr) (c0 : Nat) (l0 : List Int) (r : Bool) (w : World) (hr0 : Kd.C (Kd.int .i64) w A0 l0.length l0) (hc0 : l0.length ≤ c0) (h : decklelaw07_WeightSums.f k l0 = some r) :
    Calls Try.prog 11 #[.slice A0 l0.length c0] w fun e w' => e = .returned (.bool r) ∧ Below w.heap.size w w' := by
  unfold decklelaw07_WeightSums.f at h
  split at h
  case isFalse => cases h
  rename_i hok
  have HV := Aside0.mk (Option.some.inj h)
  have HR0 := Aside0.mk hr0
  have HM := Aside0.mk hr0.2.1
  have HC0 := Aside0.mk hc0
  have HO := Aside0.mk hok
  have HB := Aside0.mk (Below.refl w.heap.size w)
  clear h hr0 hc0 hok
  by_cases hbig : 2000 < l0.length
  · have t1 : decide (2000 < (l0.length : Int)) = true := decide_eq_true (by omega)
    have t2 : decide (2000 < l0.length) = true := decide_eq_true hbig
    clear hbig
    go_enter Try.func11, Try.ntmps11
    go_wp2_with fail
    refine (decklelaw07_alive.calls true _ HO.out.alive).mono ?_
    rintro e w1 ⟨rfl, hb⟩
    have HB1 := Aside0.mk (below_step HB.out hb)
    clear hb HB
    go_wp2_with fail
    refine (decklelaw07_alive.calls true _ HO.out.alive).mono ?_
    rintro e w2 ⟨rfl, hb⟩
    have HB2 := Aside0.mk (below_step HB1.out hb)
    clear hb HB1
    go_wp2
    go_ret
    exact ⟨by rw [← HV.out]; rfl, by repeat (first | exact HB2.out | apply below_alloc | apply pw_below_drewN | apply below_drew1)⟩
  · have t1 : decide (2000 < (l0.length : Int)) = false := decide_eq_false (by omega)
    have t2 : decide (2000 < l0.length) = false := decide_eq_false hbig
    have HREF := Aside0.mk (HO.out.ref (by omega))
    obtain ⟨p, hp0, hp⟩ := HO.out.parts (by omega)
    have HP0 := Aside0.mk hp0
    have HP := Aside0.mk hp
    have HSM := Aside0.mk (show weight_Sum.f l0 = some (weight_Sum.fits l0.sum) from if_pos HO.out.ws)
    have HBIG := Aside0.mk hbig
    clear hp0 hp hbig
    obtain ⟨x, e, hxe⟩ : ∃ x e, weight_Sum.fits l0.sum = (x, e) := ⟨_, _, rfl⟩
    have HXE := Aside0.mk hxe
    rw [hxe] at HREF HSM
    clear hxe
    go_enter Try.func11, Try.ntmps11
    go_wp2_with fail
    refine (decklelaw07_alive.calls true _ HO.out.alive).mono ?_
    rintro e w1 ⟨rfl, hb⟩
    have HB1 := Aside0.mk (below_step HB.out hb)
    clear hb HB
    go_wp2_with fail
    refine (weight_Sum.calls _ _ l0 x e _ (Kd.C_below HR0.out HB1.out) HC0.out HSM.out).mono ?_
    rintro e w2 ⟨rfl, hb⟩
    have HB2 := Aside0.mk (below_step HB1.out hb)
    clear hb HB1
    go_wp2_with fail
    refine (deckleref07_Sum.calls k _ _ l0 x e _ (Kd.C_below HR0.out HB2.out) HC0.out HREF.out).mono ?_
    rintro e w3 ⟨rfl, hb⟩
    have HB3 := Aside0.mk (below_step HB2.out hb)
    clear hb HB2
    go_wp2_with fail
    obtain ⟨G, hG⟩ : ∃ G, G = w3.heap.size := ⟨_, rfl⟩
    have HG := Aside0.mk hG
    have hwG : w.heap.size ≤ G := by rw [hG]; exact HB3.out.size
    have HWG := Aside0.mk hwG
    rw [← hG]
    clear hwG hG
    go_loopw [46] (fun i wr => ∃ j : Nat, j ≤ l0.length ∧ i = .int .i64 j ∧ Aside0 (weight_Sum.At wr G (weight_Sum.upto l0 j) j) ∧ Aside0 (wr.heap[G + 1]? = some (.cells #[.int .i64 (p j).1, .int .i64 (p j).2] 55 (0, 0))) ∧ Aside0 (Below w.heap.size w wr)) (fun i _ => l0.length - (intOf i).toNat)
    case atStart =>
      refine ⟨0, by omega, rfl, ⟨?_⟩, ⟨?_⟩, ⟨below_alloc (below_alloc HB3.out _) _⟩⟩
      · rw [HG.out]
        exact (blk_alloc (heap_alloc_new w3 _) _).trans rfl
      · rw [HP0.out, HG.out]
        have e : (w3.alloc (.cells #[.int .u64 0, .int .u64 0, .int .i64 0] 53)).heap.size = w3.heap.size + 1 := by simp
        have := heap_alloc_new (w3.alloc (.cells #[.int .u64 0, .int .u64 0, .int .i64 0] 53)) (.cells #[.int .i64 0, .int .i64 0] 55)
        rw [e] at this
        exact this
    case round =>
      obtain ⟨j, hj, rfl, HAj, HPj, HBj⟩ := hrel
      by_cases hlt : j < l0.length
      · obtain ⟨ad, e, hx⟩ := Kd.at_int (Kd.C_below HR0.out HBj.out) (j : Int) (by omega) (by omega)
        cases e
        have hmem : l0[j] ∈ l0 := List.getElem_mem hlt
        have hrd : rd l0 (j : Int) = l0[j] := by unfold rd; rw [Int.toNat_natCast, List.getD_eq_getElem?_getD, List.getElem?_eq_getElem hlt]; rfl
        have HU := Aside0.mk (show weight_Sum.upto l0 (j + 1) = weight_Sum.upto l0 j + l0[j] by unfold weight_Sum.upto; rw [List.take_succ_eq_append_getElem hlt, List.sum_append]; simp)
        have HC := Aside0.mk (HO.out.ws _ hmem)
        have HPP := Aside0.mk (HP.out j hlt)
        have hfit := decklelaw07_WeightSums.fits_two (weight_Sum.upto l0 (j + 1))
        obtain ⟨m, g, hmg⟩ : ∃ m g, weight_Sum.fits (weight_Sum.upto l0 (j + 1)) = (m, g) := ⟨_, _, rfl⟩
        have HMG := Aside0.mk hmg
        have HPP2 := HPP.out.2
        rw [show decklelaw07_WeightSums.at l0 (j + 1) = (m, g) from hmg] at HPP2
        rw [hmg] at hfit
        simp only at hfit HPP2
        have HW2 := Aside0.mk HPP2
        rw [hrd, Int.toNat_natCast] at hx
        clear hmem hrd hmg HPP2
        generalize l0[j] = c at *
        have t3 : decide ((j : Int) < (l0.length : Int)) = true := decide_eq_true (by omega)
        have t4 : decide (j < l0.length) = true := decide_eq_true hlt
        have p1 : (0 ≤ (j : Int)) = True := eq_true (by omega)
        have p2 : ((j : Int) < (l0.length : Int)) = True := eq_true (by omega)
        have HK := Aside0.mk hlt
        have hmax : (j : Int) + 1 ≤ 9223372036854775807 := by have := HM.out; omega
        clear hlt hj
        have q0 : wr.cell? ⟨G + 1, 0, none⟩ = some (.int .i64 (p j).1) := (blk_cell HPj.out 0).trans rfl
        have q1 : wr.cell? ⟨G + 1, 1, none⟩ = some (.int .i64 (p j).2) := (blk_cell HPj.out 1).trans rfl
        go_wp2_with fail
        refine (deckleref07_Parts_Plus.calls (p j).1 (p j).2 c (p (j + 1)).1 (p (j + 1)).2 _ HPP.out.1).mono ?_
        rintro e w4 ⟨rfl, hb⟩
        have HA4 := Aside0.mk (show weight_Sum.At w4 G (weight_Sum.upto l0 j) j from blk_below HAj.out hb)
        have HP4 := Aside0.mk (blk_below HPj.out hb)
        have HB4 := Aside0.mk (below_step HBj.out hb)
        have f0 : w4.frozen? ⟨G + 1, 0, none⟩ = false := blk_frozen HP4.out 0
        have f1 : w4.frozen? ⟨G + 1, 1, none⟩ = false := blk_frozen HP4.out 1
        have q2 : w4.cell? ⟨G + 1, 0, none⟩ = some (.int .i64 (p j).1) := (blk_cell HP4.out 0).trans rfl
        have q3 : w4.cell? ⟨G + 1, 1, none⟩ = some (.int .i64 (p j).2) := (blk_cell HP4.out 1).trans rfl
        clear hb q0 q1 hx
        go_wp2_with fail
        refine (deckleref07_Parts_Whole.calls (p (j + 1)).1 (p (j + 1)).2 m (decide (g = 0)) _ HW2.out).mono ?_
        rintro e w5 ⟨rfl, hb⟩
        have HA5 := Aside0.mk (show weight_Sum.At w5 G (weight_Sum.upto l0 j) j from blk_below (blk_far (blk_far HA4.out (by simp) _) (by simp) _) hb)
        have HP5 := Aside0.mk (show w5.heap[G + 1]? = some (.cells #[.int .i64 (p (j + 1)).1, .int .i64 (p (j + 1)).2] 55 (0, 0)) from blk_below ((blk_set (blk_set HP4.out 0 _) 1 _).trans rfl) hb)
        have HB5 := Aside0.mk (below_step (below_set (below_set HB4.out (by have := HWG.out; omega)) (by have := HWG.out; omega)) hb)
        clear hb f0 f1 q2 q3
        go_wp2_with fail
        refine (weight_Sum.add_calls (weight_Sum.upto l0 j) c G j HC.out.1 HC.out.2 (by have := HM.out; have := HK.out; omega) _ HA5.out).mono ?_
        rintro e w6 ⟨rfl, hat, hbl, hkp⟩
        have HA6 := Aside0.mk (show weight_Sum.At w6 G (weight_Sum.upto l0 (j + 1)) (j + 1) by rw [HU.out]; exact hat)
        have HP6 := Aside0.mk ((hkp (G + 1) (blk_lt HP5.out) (by omega)).trans HP5.out)
        have HB6 := Aside0.mk (HB5.out.trans (hbl _ HWG.out))
        clear hat hbl hkp
        go_wp2_with fail
        refine (weight_Total_Count.count_calls _ G (j + 1) _ HA6.out).mono ?_
        rintro e w7 ⟨rfl, rfl⟩
        have HSB : Aside0 (-170141183460469231731687303715884105728 ≤ weight_Sum.upto l0 (j + 1) ∧ weight_Sum.upto l0 (j + 1) < 170141183460469231731687303715884105728) := ⟨by
          have h1 := weight_Sum.sum_bound (l0.take (j + 1)) (fun c hc => HO.out.ws c (List.mem_of_mem_take hc))
          have h2 : (l0.take (j + 1)).length ≤ l0.length := by rw [List.length_take]; omega
          have h3 := HM.out
          unfold weight_Sum.upto
          omega⟩
        go_wp2_with fail
        refine (weight_Sum.sum_calls _ G (j + 1) HSB.out.1 HSB.out.2 _ HA6.out).mono ?_
        rw [HMG.out]
        rintro e w8 ⟨rfl, hb⟩
        have HA8 := Aside0.mk (show weight_Sum.At w8 G (weight_Sum.upto l0 (j + 1)) (j + 1) from blk_below HA6.out hb)
        have HP8 := Aside0.mk (blk_below HP6.out hb)
        have HB8 := Aside0.mk (below_step HB6.out hb)
        clear hb
        rcases hfit with rfl | rfl
        all_goals
          go_wp2
          go_roundw
          case rel => exact ⟨j + 1, HK.out, by go_num, ⟨HA8.out⟩, ⟨HP8.out⟩, ⟨HB8.out⟩⟩
          case measure => have := HK.out; simp [intOf]; omega
      · have hkl : j = l0.length := by omega
        have HE := Aside0.mk (show weight_Sum.fits (weight_Sum.upto l0 j) = (x, e) by
          rw [← HXE.out]
          unfold weight_Sum.upto
          rw [hkl, List.take_length])
        have HSB : Aside0 (-170141183460469231731687303715884105728 ≤ weight_Sum.upto l0 j ∧ weight_Sum.upto l0 j < 170141183460469231731687303715884105728) := ⟨by
          have h1 := weight_Sum.sum_bound (l0.take j) (fun c hc => HO.out.ws c (List.mem_of_mem_take hc))
          have h2 : (l0.take j).length ≤ l0.length := by rw [List.length_take]; omega
          have h3 := HM.out
          unfold weight_Sum.upto
          omega⟩
        have t3 : decide ((j : Int) < (l0.length : Int)) = false := decide_eq_false (by omega)
        have t4 : decide (j < l0.length) = false := decide_eq_false hlt
        clear hkl hlt hj
        go_wp2_with fail
        refine (weight_Sum.sum_calls _ G j HSB.out.1 HSB.out.2 _ HAj.out).mono ?_
        rw [HE.out]
        rintro e w8 ⟨rfl, hb⟩
        have HB8 := Aside0.mk (below_step HBj.out hb)
        clear hb
        go_wp2
        go_ret
        exact ⟨by rw [← HV.out]; first | rfl | simp, HB8.out⟩


/-- THE ONE PURE STATEMENT of decklelaw07_WeightSums: yours. -/
def decklelaw07_WeightSums.Pure : Prop := ∀ (l0 : List Int), l0.length ≤ maxLen → l0.length * 8 ≤ 140737488351232 → (∀ x ∈ l0, (Lit.int .i64 x).wf = true) → ∃ k, decklelaw07_WeightSums.f k l0 = some true
theorem decklelaw07_WeightSums.walk (P : decklelaw07_WeightSums.Pure) (a0 : Option Addr) (len0 cap0 : Nat) (z0 : List Int) (w : World) (w0 : (a0 = none ∧ len0 = 0 ∧ cap0 = 0 ∧ z0 = []) ∨ ∃ x, a0 = some x ∧ len0 ≤ cap0 ∧ cap0 ≤ maxLen ∧ z0.length = cap0 ∧ (∀ i, i < z0.length → w.cell? (x.add i) = some (.int .i64 (z0.getD i 0))) ∧ ∀ n ∈ z0, (Lit.int .i64 n).wf = true) (y0 : len0 * 8 ≤ 140737488351232) :
    Calls Try.prog 11 #[.slice a0 len0 cap0] w fun e w' => e = .returned (.bool true) ∧ Below w.heap.size w w' := by
  obtain ⟨l0, rfl, hr0, hm0, hw0, hc0⟩ := ReadsInt.ofRowC w0
  obtain ⟨k, h⟩ := P l0 hm0 y0 hw0
  refine (decklelaw07_WeightSums.calls k _ _ l0 true w (Kd.C_of_reads (d := (0 : Int)) (h1 := fun _ => rfl) hr0) hc0 h).mono ?_
  rintro e w' ⟨rfl, hd⟩
  exact ⟨rfl, hd⟩

end Go.Proofs.Ytkngkjgapgnmbaa.PWeightSums
