-- WRITTEN by a program of this session's own (wip/gen/mkprint.py), over the kit's print: not printed by print.sh itself
import Derived.Test.YtkngkjgapgnmbaaPWeightNonex0
namespace Go.Proofs.Ytkngkjgapgnmbaa.PWeightNone
open Go.RowKit Go.Proofs.YtkngkjgapgnmbaaW.PrintWords Go.Proofs.YtkngkjgapgnmbaaW.PrintLast Go.Proofs.YtkngkjgapgnmbaaW.PrintMore
attribute [local go_sem] max2_int min2_int max_two min_two max_three min_three max_four min_four   -- for this text's walks alone
set_option linter.unusedVariables false
set_option linter.unusedSimpArgs false

/-! ### weight_Sum: function 26 -/
theorem weight_Sum.add64 (x y c : Nat) (hc : c ≤ 1) (w : World) :
    (callFunc 47 #[.int .u64 (x : Int), .int .u64 (y : Int), .int .u64 (c : Int)]).run Try.prog w =
      .ok (.value (.tuple #[.int .u64 (((x + y + c) % 18446744073709551616 : Nat) : Int), .int .u64 (((x + y + c) / 18446744073709551616 : Nat) : Int)])) w := by
  rw [run_callFunc_extern Try.func47 (by kernel_rfl) (by kernel_rfl) (by kernel_rfl) (e := add64Entry) (by kernel_rfl), run_add64 x y c (by omega) (by omega) (by omega) (by omega)]
  simp only [Result.andThen]
  congr 5 <;> omega
def weight_Sum.lo (S : Int) : Nat := (S % 18446744073709551616).toNat
def weight_Sum.hi (S : Int) : Nat := (S / 18446744073709551616 % 18446744073709551616).toNat
theorem weight_Sum.lo_lt (S : Int) : weight_Sum.lo S < 18446744073709551616 := by unfold weight_Sum.lo; omega
theorem weight_Sum.hi_lt (S : Int) : weight_Sum.hi S < 18446744073709551616 := by unfold weight_Sum.hi; omega
theorem weight_Sum.lo_plus (S w : Int) : weight_Sum.lo (S + w) = (weight_Sum.lo S + (w % 18446744073709551616).toNat + 0) % 18446744073709551616 := by
  unfold weight_Sum.lo
  omega
theorem weight_Sum.hi_plus (S w : Int) (h0 : -9223372036854775808 ≤ w) (h1 : w ≤ 9223372036854775807) :
    weight_Sum.hi (S + w) = (weight_Sum.hi S + (w / 9223372036854775808 % 18446744073709551616).toNat + (weight_Sum.lo S + (w % 18446744073709551616).toNat + 0) / 18446744073709551616) % 18446744073709551616 := by
  unfold weight_Sum.hi weight_Sum.lo
  omega
set_option maxHeartbeats 2000000 in
set_option maxRecDepth 100000 in
theorem weight_Sum.plus_calls (S w : Int) (h0 : -9223372036854775808 ≤ w) (h1 : w ≤ 9223372036854775807) (W : World) :
    Calls Try.prog 42 #[.agg #[.int .u64 (weight_Sum.lo S : Nat), .int .u64 (weight_Sum.hi S : Nat)], .int .i64 w] W fun e w' => e = .returned (.agg #[.int .u64 (weight_Sum.lo (S + w) : Nat), .int .u64 (weight_Sum.hi (S + w) : Nat)]) ∧ Below W.heap.size W w' := by
  obtain ⟨wn, hwn⟩ : ∃ n : Nat, n = (w % 18446744073709551616).toNat := ⟨_, rfl⟩
  obtain ⟨wm, hwm⟩ : ∃ n : Nat, n = (w / 9223372036854775808 % 18446744073709551616).toNat := ⟨_, rfl⟩
  have g1 : IntKind.u64.wrap w = (wn : Int) := by rw [hwn]; simp [IntKind.wrap, IntKind.bits, IntKind.signed]; omega
  have g2 : IntKind.u64.wrap (w / 9223372036854775808) = (wm : Int) := by rw [hwm]; simp [IntKind.wrap, IntKind.bits, IntKind.signed]; omega
  have e1 := weight_Sum.lo_plus S w
  have e2 := weight_Sum.hi_plus S w h0 h1
  rw [← hwn] at e1 e2
  rw [← hwm] at e2
  have l1 := weight_Sum.lo_lt S
  have hcn : (weight_Sum.lo S + wn + 0) / 18446744073709551616 ≤ 1 := by omega
  have r1 := weight_Sum.add64 (weight_Sum.lo S) wn 0 (by omega)
  have r2 := weight_Sum.add64 (weight_Sum.hi S) wm ((weight_Sum.lo S + wn + 0) / 18446744073709551616) hcn
  rw [← e1] at r1
  rw [← e2] at r2
  rw [show ((0 : Nat) : Int) = 0 from rfl] at r1
  generalize (weight_Sum.lo S + wn + 0) / 18446744073709551616 = c1 at *
  generalize hq : (weight_Sum.hi S + wm + c1) / 18446744073709551616 = c2 at *
  clear e1 e2 hcn hq hwn hwm l1 h0 h1
  generalize weight_Sum.lo S = x0 at *
  generalize weight_Sum.hi S = x1 at *
  generalize weight_Sum.lo (S + w) = y0 at *
  generalize weight_Sum.hi (S + w) = y1 at *
  go_enter Try.func42, Try.ntmps42
  go_wp2
  exact bodyPost_ret (v := .agg #[.int .u64 (y0 : Int), .int .u64 (y1 : Int)]) (by simp [results, Try.results42, go_sem]) rfl ⟨rfl, below_alloc (below_alloc (Below.refl _ _) _) _⟩
theorem weight_Sum.is_weight (S : Int) (h0 : -170141183460469231731687303715884105728 ≤ S) (h1 : S < 170141183460469231731687303715884105728) :
    (-9223372036854775808 ≤ S ∧ S ≤ 9223372036854775807 → wrap64 (weight_Sum.lo S : Nat) = S ∧ IntKind.u64.wrap (S / 9223372036854775808) = (weight_Sum.hi S : Nat)) ∧
    (¬ (-9223372036854775808 ≤ S ∧ S ≤ 9223372036854775807) → IntKind.u64.wrap (wrap64 (weight_Sum.lo S : Nat) / 9223372036854775808) ≠ (weight_Sum.hi S : Nat)) := by
  have e : ∀ n : Int, IntKind.u64.wrap n = n % 18446744073709551616 := fun n => by simp [IntKind.wrap, IntKind.bits, IntKind.signed]
  rw [e, e]
  unfold weight_Sum.lo weight_Sum.hi wrap64
  obtain ⟨x, hx⟩ : ∃ x : Int, x = S % 18446744073709551616 := ⟨_, rfl⟩
  obtain ⟨q, hq⟩ : ∃ q : Int, q = S / 18446744073709551616 := ⟨_, rfl⟩
  have hS : S = 18446744073709551616 * q + x := by omega
  have x0 : 0 ≤ x := by omega
  have x1 : x < 18446744073709551616 := by omega
  have q0 : -9223372036854775808 ≤ q := by omega
  have q1 : q < 9223372036854775808 := by omega
  rw [← hx, ← hq, Int.toNat_of_nonneg x0, Int.toNat_of_nonneg (by omega)]
  clear hx hq
  subst hS
  clear h0 h1
  by_cases hc : x < 9223372036854775808
  · have hv : (x + 9223372036854775808) % 18446744073709551616 - 9223372036854775808 = x := by omega
    rw [hv]
    constructor
    · intro h
      constructor <;> omega
    · intro h
      omega
  · have hv : (x + 9223372036854775808) % 18446744073709551616 - 9223372036854775808 = x - 18446744073709551616 := by omega
    rw [hv]
    constructor
    · intro h
      constructor <;> omega
    · intro h
      omega
def weight_Sum.fits (S : Int) : Int × Int := if -9223372036854775808 ≤ S ∧ S ≤ 9223372036854775807 then (S, 0) else (0, 12)
set_option maxHeartbeats 2000000 in
set_option maxRecDepth 100000 in
theorem weight_Sum.weight_calls (S : Int) (h0 : -170141183460469231731687303715884105728 ≤ S) (h1 : S < 170141183460469231731687303715884105728) (W : World) :
    Calls Try.prog 43 #[.agg #[.int .u64 (weight_Sum.lo S : Nat), .int .u64 (weight_Sum.hi S : Nat)]] W fun e w' => e = .returned (.tuple #[.int .i64 (weight_Sum.fits S).1, .int .i64 (weight_Sum.fits S).2]) ∧ Below W.heap.size W w' := by
  obtain ⟨k1, k2⟩ := weight_Sum.is_weight S h0 h1
  obtain ⟨v, hv⟩ : ∃ v, v = wrap64 (weight_Sum.lo S : Nat) := ⟨_, rfl⟩
  obtain ⟨u, hu⟩ : ∃ u, u = IntKind.u64.wrap (v / 9223372036854775808) := ⟨_, rfl⟩
  by_cases h : -9223372036854775808 ≤ S ∧ S ≤ 9223372036854775807
  · obtain ⟨a1, a2⟩ := k1 h
    have hf := Aside0.mk (show weight_Sum.fits S = (S, 0) from if_pos h)
    rw [a1] at hv
    rw [hv, a2] at hu
    have g1 : wrap64 (weight_Sum.lo S : Nat) = S := a1
    have g2 : IntKind.u64.wrap (S / 9223372036854775808) = (weight_Sum.hi S : Nat) := a2
    clear a1 a2 k1 k2 h h0 h1 hv hu
    generalize weight_Sum.lo S = x0 at *
    generalize weight_Sum.hi S = x1 at *
    go_enter Try.func43, Try.ntmps43
    go_wp2
    go_ret2
    exact ⟨by rw [hf.out]; simp [g1], below_alloc (Below.refl _ _) _⟩
  · have a2 := k2 h
    have hf := Aside0.mk (show weight_Sum.fits S = (0, 12) from if_neg h)
    rw [← hv, ← hu] at a2
    have g1 : wrap64 (weight_Sum.lo S : Nat) = v := hv.symm
    have g2 : IntKind.u64.wrap (v / 9223372036854775808) = u := hu.symm
    have t1 : (((weight_Sum.hi S : Nat) : Int) != u) = true := bne_iff_ne.2 (fun z => a2 z.symm)
    have t2 : (((weight_Sum.hi S : Nat) : Int) == u) = false := beq_eq_false_iff_ne.2 (fun z => a2 z.symm)
    clear a2 k1 k2 h h0 h1 hv hu
    generalize weight_Sum.lo S = x0 at *
    generalize weight_Sum.hi S = x1 at *
    go_enter Try.func43, Try.ntmps43
    go_wp2
    go_ret2
    exact ⟨by rw [hf.out]; simp, below_alloc (Below.refl _ _) _⟩
/-- A total at block g: its exact sum, how many there were. -/
def weight_Sum.At (w : World) (g : Nat) (S : Int) (n : Nat) : Prop := w.heap[g]? = some (.cells #[.int .u64 (weight_Sum.lo S : Nat), .int .u64 (weight_Sum.hi S : Nat), .int .i64 (n : Int)] 53 (0, 0))
set_option maxHeartbeats 2000000 in
set_option maxRecDepth 100000 in
theorem weight_Sum.add_calls (S w : Int) (g n : Nat) (h0 : -9223372036854775808 ≤ w) (h1 : w ≤ 9223372036854775807) (hn : n < 9223372036854775807) (W : World) (hg : weight_Sum.At W g S n) :
    Calls Try.prog 31 #[.pointer (some ⟨g, 0, none⟩), .int .i64 w] W fun e w' => e = .returned (.int .i64 0) ∧ weight_Sum.At w' g (S + w) (n + 1) ∧ ∀ B, B ≤ g → Below B W w' := by
  have hb : W.heap[g]? = some (.cells #[.int .u64 (weight_Sum.lo S : Nat), .int .u64 (weight_Sum.hi S : Nat), .int .i64 (n : Int)] 53 (0, 0)) := hg
  have hlt := blk_lt hb
  have HB := Aside0.mk hb
  have c0 : W.cell? ⟨g, 0, none⟩ = some (.int .u64 (weight_Sum.lo S : Nat)) := (blk_cell hb 0).trans rfl
  have c1 : W.cell? ⟨g, 1, none⟩ = some (.int .u64 (weight_Sum.hi S : Nat)) := (blk_cell hb 1).trans rfl
  clear hg hb
  go_enter Try.func31, Try.ntmps31
  go_wp2_with fail
  refine (weight_Sum.plus_calls S w h0 h1 _).mono ?_
  rintro e w1 ⟨rfl, hbel⟩
  have hb1 := (hbel.block g hlt).trans HB.out
  have HB1 := Aside0.mk hb1
  have HW1 := Aside0.mk hbel
  have hn1 : (n : Int) + 1 ≤ 9223372036854775807 := by omega
  have c0 : w1.cell? ⟨g, 0, none⟩ = some (.int .u64 (weight_Sum.lo S : Nat)) := (blk_cell hb1 0).trans rfl
  have c1 : w1.cell? ⟨g, 1, none⟩ = some (.int .u64 (weight_Sum.hi S : Nat)) := (blk_cell hb1 1).trans rfl
  have c2 : w1.cell? ⟨g, 2, none⟩ = some (.int .i64 (n : Int)) := (blk_cell hb1 2).trans rfl
  have f0 : w1.frozen? ⟨g, 0, none⟩ = false := blk_frozen hb1 0
  have f1 : w1.frozen? ⟨g, 1, none⟩ = false := blk_frozen hb1 1
  have f2 : w1.frozen? ⟨g, 2, none⟩ = false := blk_frozen hb1 2
  clear hb1 hbel
  go_wp2
  go_ret
  refine ⟨rfl, ?_, fun B hB => ?_⟩
  · exact (blk_set (blk_set (blk_set HB1.out 0 _) 1 _) 2 _).trans rfl
  · have hW := HW1.out
    have h2 : Below B W w1 := ⟨hW.os, hW.tape, hW.output, hW.size, fun i hi => hW.block i (by omega)⟩
    exact ((h2.setCell hB _).setCell hB _).setCell hB _
set_option maxHeartbeats 2000000 in
set_option maxRecDepth 100000 in
theorem weight_Sum.sum_calls (S : Int) (g n : Nat) (h0 : -170141183460469231731687303715884105728 ≤ S) (h1 : S < 170141183460469231731687303715884105728) (W : World) (hg : weight_Sum.At W g S n) :
    Calls Try.prog 33 #[.pointer (some ⟨g, 0, none⟩)] W fun e w' => e = .returned (.tuple #[.int .i64 (weight_Sum.fits S).1, .int .i64 (weight_Sum.fits S).2]) ∧ Below W.heap.size W w' := by
  have hb : W.heap[g]? = some (.cells #[.int .u64 (weight_Sum.lo S : Nat), .int .u64 (weight_Sum.hi S : Nat), .int .i64 (n : Int)] 53 (0, 0)) := hg
  have c0 : W.cell? ⟨g, 0, none⟩ = some (.int .u64 (weight_Sum.lo S : Nat)) := (blk_cell hb 0).trans rfl
  have c1 : W.cell? ⟨g, 1, none⟩ = some (.int .u64 (weight_Sum.hi S : Nat)) := (blk_cell hb 1).trans rfl
  have H0 := Aside0.mk h0
  have H1 := Aside0.mk h1
  clear hg hb h0 h1
  go_enter Try.func33, Try.ntmps33
  go_wp2_with fail
  refine (weight_Sum.weight_calls S H0.out H1.out _).mono ?_
  rintro e w1 ⟨rfl, hbel⟩
  have HW1 := Aside0.mk hbel
  clear hbel
  go_wp2
  go_ret2
  exact ⟨rfl, HW1.out⟩
def weight_Sum.f (l0 : List Int) : Option (Int × Int) := if ∀ c ∈ l0, -9223372036854775808 ≤ c ∧ c ≤ 9223372036854775807 then some (weight_Sum.fits l0.sum) else none
theorem weight_Sum.sum_bound : ∀ l : List Int, (∀ c ∈ l, -9223372036854775808 ≤ c ∧ c ≤ 9223372036854775807) → -9223372036854775808 * (l.length : Int) ≤ l.sum ∧ l.sum ≤ 9223372036854775807 * (l.length : Int)
  | [], _ => by simp
  | c :: t, h => by
    have h1 := weight_Sum.sum_bound t (fun d hd => h d (List.mem_cons_of_mem _ hd))
    have h2 := h c (List.mem_cons_self ..)
    simp only [List.sum_cons, List.length_cons]
    omega
def weight_Sum.upto (l : List Int) (k : Nat) : Int := (l.take k).sum
set_option maxHeartbeats 4000000 in
set_option maxRecDepth 100000 in
theorem weight_Sum.calls (A0 : Option Addr) (c0 : Nat) (l0 : List Int) (r1 r2 : Int) (w : World) (hr0 : Kd.C (Kd.int .i64) w A0 l0.length l0) (hc0 : l0.length ≤ c0) (h : weight_Sum.f l0 = some (r1, r2)) :
    Calls Try.prog 26 #[.slice A0 l0.length c0] w fun e w' => e = .returned (.tuple #[.int .i64 r1, .int .i64 r2]) ∧ Below w.heap.size w w' := by
  unfold weight_Sum.f at h
  split at h
  case isFalse => cases h
  rename_i hcond
  have HV := Aside0.mk (Option.some.inj h)
  have HR0 := Aside0.mk hr0
  have HBY := Aside0.mk hcond
  have HM := Aside0.mk hr0.2.1
  clear h hr0 hcond
  have hbd : ∀ k, -170141183460469231731687303715884105728 ≤ weight_Sum.upto l0 k ∧ weight_Sum.upto l0 k < 170141183460469231731687303715884105728 := fun k => by
    have := weight_Sum.sum_bound (l0.take k) (fun c hc => HBY.out c (List.mem_of_mem_take hc))
    have h2 : (l0.take k).length ≤ l0.length := by rw [List.length_take]; omega
    have h3 := HM.out
    unfold weight_Sum.upto
    omega
  have HBD := Aside0.mk hbd
  clear hbd
  go_enter Try.func26, Try.ntmps26
  go_wp2_with fail
  go_loopw [9] (fun i wr => ∃ k : Nat, k ≤ l0.length ∧ i = .int .i64 k ∧ Aside0 (weight_Sum.At wr w.heap.size (weight_Sum.upto l0 k) k) ∧ Aside0 (Below w.heap.size w wr)) (fun i _ => l0.length - (intOf i).toNat)
  case atStart => exact ⟨0, by omega, rfl, ⟨heap_alloc_new _ _⟩, ⟨below_alloc (Below.refl _ _) _⟩⟩
  case round =>
    obtain ⟨k, hk, rfl, HBk, HBw⟩ := hrel
    by_cases hlt : k < l0.length
    · obtain ⟨ad, e, hx⟩ := Kd.at_int (Kd.C_below HR0.out HBw.out) (k : Int) (by omega) (by omega)
      cases e
      have hmem : l0[k] ∈ l0 := List.getElem_mem hlt
      have hrd : rd l0 (k : Int) = l0[k] := by unfold rd; rw [Int.toNat_natCast, List.getD_eq_getElem?_getD, List.getElem?_eq_getElem hlt]; rfl
      have HU := Aside0.mk (show weight_Sum.upto l0 (k + 1) = weight_Sum.upto l0 k + l0[k] by unfold weight_Sum.upto; rw [List.take_succ_eq_append_getElem hlt, List.sum_append]; simp)
      have HC := Aside0.mk (HBY.out _ hmem)
      rw [hrd, Int.toNat_natCast] at hx
      clear hmem hrd
      generalize l0[k] = c at *
      generalize weight_Sum.upto l0 k = q at *
      have t1 : decide ((k : Int) < (l0.length : Int)) = true := decide_eq_true (by omega)
      have t2 : decide (k < l0.length) = true := decide_eq_true hlt
      have p1 : (0 ≤ (k : Int)) = True := eq_true (by omega)
      have p2 : ((k : Int) < (l0.length : Int)) = True := eq_true (by omega)
      have HK := Aside0.mk hlt
      clear hlt hk
      have hmax : (k : Int) + 1 ≤ 9223372036854775807 := by have := HM.out; have := HK.out; omega
      go_wp2_with fail
      refine (weight_Sum.add_calls q c _ k HC.out.1 HC.out.2 (by have := HM.out; have := HK.out; omega) _ HBk.out).mono ?_
      rintro e w1 ⟨rfl, hat, hbl⟩
      have HB1 := Aside0.mk hat
      have HW1 := Aside0.mk (HBw.out.trans (hbl _ (Nat.le_refl _)))
      clear hat hbl
      go_wp2
      go_roundw
      case rel => exact ⟨k + 1, HK.out, by go_num, ⟨by rw [HU.out]; exact HB1.out⟩, HW1⟩
      case measure => have := HK.out; simp [intOf]; omega
    · have hkl : k = l0.length := by omega
      have HE := Aside0.mk (show weight_Sum.fits (weight_Sum.upto l0 k) = (r1, r2) by
        rw [← HV.out]
        unfold weight_Sum.upto
        rw [hkl, List.take_length])
      have HQ := Aside0.mk (HBD.out k)
      generalize weight_Sum.upto l0 k = q at *
      have t1 : decide ((k : Int) < (l0.length : Int)) = false := decide_eq_false (by omega)
      have t2 : decide (k < l0.length) = false := decide_eq_false hlt
      clear hkl hlt hk
      go_wp2_with fail
      refine (weight_Sum.sum_calls q _ k HQ.out.1 HQ.out.2 _ HBk.out).mono ?_
      rw [HE.out]
      rintro e w1 ⟨rfl, hbel⟩
      have HW1 := Aside0.mk (below_step HBw.out hbel)
      clear hbel
      go_wp2
      go_ret2
      exact ⟨rfl, HW1.out⟩

/-! ### decklelaw07_alive: function 25 -/
def decklelaw07_alive.f  : Option (Bool) := (weight_Sum.f (([9223372036854775807, 1, (-1)] : List Int))).bind fun bt104 => ((weight_Sum.f (([9223372036854775807, 1] : List Int))).bind fun bt109 => (if bt104.2 = 0 then (if bt104.1 = 9223372036854775807 then (some (bt109.2 == 12)) else (some false)) else (some false)))
set_option maxHeartbeats 8000000 in
set_option maxRecDepth 100000 in
theorem decklelaw07_alive.calls  (r : Bool) (w : World) (h : decklelaw07_alive.f  = some r) :
    Calls Try.prog 25 #[] w fun e w' => e = .returned (.bool r) ∧ Below w.heap.size w w' := by
  have HB := Aside0.mk (Below.refl w.heap.size w)
  have H : ((weight_Sum.f (([9223372036854775807, 1, (-1)] : List Int))).bind fun bt104 => ((weight_Sum.f (([9223372036854775807, 1] : List Int))).bind fun bt109 => (if bt104.2 = 0 then (if bt104.1 = 9223372036854775807 then (some (bt109.2 == 12)) else (some false)) else (some false)))) = some r := h
  clear h
  obtain ⟨y101, hy101⟩ : ∃ y_ : List Int, y_ = (([9223372036854775807, 1, (-1)] : List Int)) := ⟨_, rfl⟩
  replace H : ((weight_Sum.f y101).bind fun bt104 => ((weight_Sum.f (([9223372036854775807, 1] : List Int))).bind fun bt109 => (if bt104.2 = 0 then (if bt104.1 = 9223372036854775807 then (some (bt109.2 == 12)) else (some false)) else (some false)))) = some r := by first | (rw [hy101]; with_reducible exact H) | (have H2_ := (Option.bind_some _ _).symm.trans H; rw [hy101]; with_reducible exact H2_) | (have H2_ := (Option.bind_some _ _).symm.trans H; with_reducible exact H2_) | with_reducible exact H | (rw [hy101]; exact H) | exact H
  have Ny101 := Aside0.mk hy101
  clear hy101
  replace H := Option.bind_eq_some_iff.mp H
  obtain ⟨⟨t104, t105⟩, A10, H⟩ := H
  replace H : ((weight_Sum.f (([9223372036854775807, 1] : List Int))).bind fun bt109 => (if t105 = 0 then (if t104 = 9223372036854775807 then (some (bt109.2 == 12)) else (some false)) else (some false))) = some r := H
  have A1 := Aside0.mk A10
  clear A10
  obtain ⟨y106, hy106⟩ : ∃ y_ : List Int, y_ = (([9223372036854775807, 1] : List Int)) := ⟨_, rfl⟩
  replace H : ((weight_Sum.f y106).bind fun bt109 => (if t105 = 0 then (if t104 = 9223372036854775807 then (some (bt109.2 == 12)) else (some false)) else (some false))) = some r := by first | (rw [hy106]; with_reducible exact H) | (have H2_ := (Option.bind_some _ _).symm.trans H; rw [hy106]; with_reducible exact H2_) | (have H2_ := (Option.bind_some _ _).symm.trans H; with_reducible exact H2_) | with_reducible exact H | (rw [hy106]; exact H) | exact H
  have Ny106 := Aside0.mk hy106
  clear hy106
  replace H := Option.bind_eq_some_iff.mp H
  obtain ⟨⟨t109, t110⟩, A20, H⟩ := H
  replace H : (if t105 = 0 then (if t104 = 9223372036854775807 then (some (t110 == 12)) else (some false)) else (some false)) = some r := H
  have A2 := Aside0.mk A20
  clear A20
  by_cases c3 : t105 = 0
  · rw [if_pos c3] at H
    have c3b0 : (t105 == 0) = true := beq_iff_eq.mpr c3
    have c3b1 : (t105 != 0) = false := bne_eq_false_iff_eq.mpr c3
    clear c3
    by_cases c4 : t104 = 9223372036854775807
    · rw [if_pos c4] at H
      have c4b0 : (t104 == 9223372036854775807) = true := beq_iff_eq.mpr c4
      have c4b1 : (t104 != 9223372036854775807) = false := bne_eq_false_iff_eq.mpr c4
      clear c4
      obtain rfl := Option.some.inj H
      go_enter Try.func25, Try.ntmps25
      go_wp2_with (first | ((with_reducible refine gate_dst (N := 6) rfl ?_); refine Kd.R_lit (Kd.int .i64) _ 2 ?hg (N := 6) ?hd (xs := ([9223372036854775807, 1, (-1)] : List Int)) (inner := [.int .i64 9223372036854775807, .int .i64 1, .int .i64 (-1)]) (ok := fun _ => True) (okp := fun _ => True) ?hr ?hp (fun _ hk => hk) trivial (Below.refl _ _) (Nat.le_refl _) (by simp) ?_; (case hd => rfl); (case hg => rfl); (case hr => first | (go_simp; done) | (go_simp; rfl)); (case hp => exact (Reps.one (show Kd.M (Kd.int .i64) _ _ _ 9223372036854775807 [.int .i64 9223372036854775807] from rfl) (Reps.one (show Kd.M (Kd.int .i64) _ _ _ 1 [.int .i64 1] from rfl) (Reps.one (show Kd.M (Kd.int .i64) _ _ _ (-1) [.int .i64 (-1)] from rfl) (Reps.none _ _))))); intro v102 w5 ho6 hb hg_ hnew_; clear hg_ hnew_; (first | rw [← Ny101.out] at ho6 | (simp only [Int.reduceToNat] at ho6; rw [← Ny101.out] at ho6)); have n0_ := Aside0.mk (Kd.R_lower ho6 (below_size (by repeat (first | (with_reducible first | exact HB.out | apply below_alloc | apply pw_below_drewN | apply below_drew1) | exact HB.out)))); have n1_ := Aside0.mk (below_step (by repeat (first | (with_reducible first | exact HB.out | apply below_alloc | apply pw_below_drewN | apply below_drew1) | exact HB.out)) hb); clear HB; have HO103 := n0_; have HB := n1_; clear n0_ n1_; clear hb ho6; obtain ⟨Ao7, co7, eo7⟩ := Kd.R_slice HO103.out; subst eo7) | ((with_reducible refine gate_callee (f := 26) rfl ?_); refine goesL_ (some 7) rfl rfl Try.func26 (by kernel_rfl) rfl #[.slice Ao7 y101.length co7] rfl (by (try simp only [List.map_toArray, List.map_cons, List.map_nil]); first | done | rfl | (simp only [List.length_drop, List.length_take]; rfl)) ?_; (with_reducible refine (weight_Sum.calls _ _ y101 t104 t105 _ ?side1 ?side2 A1.out).mono ?_); (case side1 => repeat (first | exact (Kd.R_reads' HO103.out).2.2 | (with_reducible refine Kd.C_alloc ?_ _) | (with_reducible refine Kd.C_drewN ?_ _) | (with_reducible refine Kd.C_drew ?_))); (case side2 => exact (Kd.R_reads' HO103.out).2.1); rintro e w8 ⟨rfl, hb⟩; refine ⟨_, rfl, ?_⟩; have n0_ := Aside0.mk (Kd.R_below (by (with_reducible repeat (first | apply Kd.R_alloc | apply Kd.R_drewN | apply Kd.R_drew)); exact HO103.out) hb); have n1_ := Aside0.mk (below_step (by repeat (first | (with_reducible first | exact HB.out | apply below_alloc | apply pw_below_drewN | apply below_drew1) | exact HB.out)) hb); clear HO103; clear HB; have HO103 := n0_; have HB := n1_; clear n0_ n1_; (try clear hb); (try clear hb2); (try clear hk); (try clear hi)) | ((with_reducible refine gate_dst (N := 11) rfl ?_); refine Kd.R_lit (Kd.int .i64) _ 2 ?hg (N := 11) ?hd (xs := ([9223372036854775807, 1] : List Int)) (inner := [.int .i64 9223372036854775807, .int .i64 1]) (ok := fun _ => True) (okp := fun _ => True) ?hr ?hp (fun _ hk => hk) trivial (Below.refl _ _) (Nat.le_refl _) (by simp) ?_; (case hd => rfl); (case hg => rfl); (case hr => first | (go_simp; done) | (go_simp; rfl)); (case hp => exact (Reps.one (show Kd.M (Kd.int .i64) _ _ _ 9223372036854775807 [.int .i64 9223372036854775807] from rfl) (Reps.one (show Kd.M (Kd.int .i64) _ _ _ 1 [.int .i64 1] from rfl) (Reps.none _ _)))); intro v107 w9 ho10 hb hg_ hnew_; clear hg_ hnew_; (first | rw [← Ny106.out] at ho10 | (simp only [Int.reduceToNat] at ho10; rw [← Ny106.out] at ho10)); have n0_ := Aside0.mk (Kd.R_elder' (by (with_reducible repeat (first | apply Kd.R_alloc | apply Kd.R_drewN | apply Kd.R_drew)); exact HO103.out) (Kd.R_base ho10) hb); have n1_ := Aside0.mk (Kd.R_lower (Kd.R_new' ho10 (Kd.R_lt (by (with_reducible repeat (first | apply Kd.R_alloc | apply Kd.R_drewN | apply Kd.R_drew)); exact HO103.out))) (below_size (by repeat (first | (with_reducible first | exact HB.out | apply below_alloc | apply pw_below_drewN | apply below_drew1) | exact HB.out)))); have n2_ := Aside0.mk (below_step (by repeat (first | (with_reducible first | exact HB.out | apply below_alloc | apply pw_below_drewN | apply below_drew1) | exact HB.out)) hb); clear HO103; clear HB; have HO103 := n0_; have HO108 := n1_; have HB := n2_; clear n0_ n1_ n2_; clear hb ho10; obtain ⟨Ao11, co11, eo11⟩ := Kd.R_slice HO108.out; subst eo11) | ((with_reducible refine gate_callee (f := 26) rfl ?_); refine goesL_ (some 12) rfl rfl Try.func26 (by kernel_rfl) rfl #[.slice Ao11 y106.length co11] rfl (by (try simp only [List.map_toArray, List.map_cons, List.map_nil]); first | done | rfl | (simp only [List.length_drop, List.length_take]; rfl)) ?_; (with_reducible refine (weight_Sum.calls _ _ y106 t109 t110 _ ?side1 ?side2 A2.out).mono ?_); (case side1 => repeat (first | exact (Kd.R_reads' HO108.out).2.2 | (with_reducible refine Kd.C_alloc ?_ _) | (with_reducible refine Kd.C_drewN ?_ _) | (with_reducible refine Kd.C_drew ?_))); (case side2 => exact (Kd.R_reads' HO108.out).2.1); rintro e w12 ⟨rfl, hb⟩; refine ⟨_, rfl, ?_⟩; have n0_ := Aside0.mk (Kd.R_below (by (with_reducible repeat (first | apply Kd.R_alloc | apply Kd.R_drewN | apply Kd.R_drew)); exact HO103.out) hb); have n1_ := Aside0.mk (Kd.R_below (by (with_reducible repeat (first | apply Kd.R_alloc | apply Kd.R_drewN | apply Kd.R_drew)); exact HO108.out) hb); have n2_ := Aside0.mk (below_step (by repeat (first | (with_reducible first | exact HB.out | apply below_alloc | apply pw_below_drewN | apply below_drew1) | exact HB.out)) hb); clear HO103; clear HO108; clear HB; have HO103 := n0_; have HO108 := n1_; have HB := n2_; clear n0_ n1_ n2_; (try clear hb); (try clear hb2); (try clear hk); (try clear hi)))
      go_ret
      exact ⟨by first | rfl | (simp [errW_none, errW_some] <;> rfl) | (simp [*, errW_none, errW_some] <;> rfl), by repeat (first | (with_reducible first | exact HB.out | apply below_alloc | apply pw_below_drewN | apply below_drew1) | exact HB.out)⟩
    · rw [if_neg c4] at H
      have c4b0 : (t104 == 9223372036854775807) = false := beq_eq_false_iff_ne.mpr c4
      have c4b1 : (t104 != 9223372036854775807) = true := bne_iff_ne.mpr c4
      obtain rfl := Option.some.inj H
      go_enter Try.func25, Try.ntmps25
      go_wp2_with (first | ((with_reducible refine gate_dst (N := 6) rfl ?_); refine Kd.R_lit (Kd.int .i64) _ 2 ?hg (N := 6) ?hd (xs := ([9223372036854775807, 1, (-1)] : List Int)) (inner := [.int .i64 9223372036854775807, .int .i64 1, .int .i64 (-1)]) (ok := fun _ => True) (okp := fun _ => True) ?hr ?hp (fun _ hk => hk) trivial (Below.refl _ _) (Nat.le_refl _) (by simp) ?_; (case hd => rfl); (case hg => rfl); (case hr => first | (go_simp; done) | (go_simp; rfl)); (case hp => exact (Reps.one (show Kd.M (Kd.int .i64) _ _ _ 9223372036854775807 [.int .i64 9223372036854775807] from rfl) (Reps.one (show Kd.M (Kd.int .i64) _ _ _ 1 [.int .i64 1] from rfl) (Reps.one (show Kd.M (Kd.int .i64) _ _ _ (-1) [.int .i64 (-1)] from rfl) (Reps.none _ _))))); intro v102 w13 ho14 hb hg_ hnew_; clear hg_ hnew_; (first | rw [← Ny101.out] at ho14 | (simp only [Int.reduceToNat] at ho14; rw [← Ny101.out] at ho14)); have n0_ := Aside0.mk (Kd.R_lower ho14 (below_size (by repeat (first | (with_reducible first | exact HB.out | apply below_alloc | apply pw_below_drewN | apply below_drew1) | exact HB.out)))); have n1_ := Aside0.mk (below_step (by repeat (first | (with_reducible first | exact HB.out | apply below_alloc | apply pw_below_drewN | apply below_drew1) | exact HB.out)) hb); clear HB; have HO103 := n0_; have HB := n1_; clear n0_ n1_; clear hb ho14; obtain ⟨Ao15, co15, eo15⟩ := Kd.R_slice HO103.out; subst eo15) | ((with_reducible refine gate_callee (f := 26) rfl ?_); refine goesL_ (some 7) rfl rfl Try.func26 (by kernel_rfl) rfl #[.slice Ao15 y101.length co15] rfl (by (try simp only [List.map_toArray, List.map_cons, List.map_nil]); first | done | rfl | (simp only [List.length_drop, List.length_take]; rfl)) ?_; (with_reducible refine (weight_Sum.calls _ _ y101 t104 t105 _ ?side1 ?side2 A1.out).mono ?_); (case side1 => repeat (first | exact (Kd.R_reads' HO103.out).2.2 | (with_reducible refine Kd.C_alloc ?_ _) | (with_reducible refine Kd.C_drewN ?_ _) | (with_reducible refine Kd.C_drew ?_))); (case side2 => exact (Kd.R_reads' HO103.out).2.1); rintro e w16 ⟨rfl, hb⟩; refine ⟨_, rfl, ?_⟩; have n0_ := Aside0.mk (Kd.R_below (by (with_reducible repeat (first | apply Kd.R_alloc | apply Kd.R_drewN | apply Kd.R_drew)); exact HO103.out) hb); have n1_ := Aside0.mk (below_step (by repeat (first | (with_reducible first | exact HB.out | apply below_alloc | apply pw_below_drewN | apply below_drew1) | exact HB.out)) hb); clear HO103; clear HB; have HO103 := n0_; have HB := n1_; clear n0_ n1_; (try clear hb); (try clear hb2); (try clear hk); (try clear hi)) | ((with_reducible refine gate_dst (N := 11) rfl ?_); refine Kd.R_lit (Kd.int .i64) _ 2 ?hg (N := 11) ?hd (xs := ([9223372036854775807, 1] : List Int)) (inner := [.int .i64 9223372036854775807, .int .i64 1]) (ok := fun _ => True) (okp := fun _ => True) ?hr ?hp (fun _ hk => hk) trivial (Below.refl _ _) (Nat.le_refl _) (by simp) ?_; (case hd => rfl); (case hg => rfl); (case hr => first | (go_simp; done) | (go_simp; rfl)); (case hp => exact (Reps.one (show Kd.M (Kd.int .i64) _ _ _ 9223372036854775807 [.int .i64 9223372036854775807] from rfl) (Reps.one (show Kd.M (Kd.int .i64) _ _ _ 1 [.int .i64 1] from rfl) (Reps.none _ _)))); intro v107 w17 ho18 hb hg_ hnew_; clear hg_ hnew_; (first | rw [← Ny106.out] at ho18 | (simp only [Int.reduceToNat] at ho18; rw [← Ny106.out] at ho18)); have n0_ := Aside0.mk (Kd.R_elder' (by (with_reducible repeat (first | apply Kd.R_alloc | apply Kd.R_drewN | apply Kd.R_drew)); exact HO103.out) (Kd.R_base ho18) hb); have n1_ := Aside0.mk (Kd.R_lower (Kd.R_new' ho18 (Kd.R_lt (by (with_reducible repeat (first | apply Kd.R_alloc | apply Kd.R_drewN | apply Kd.R_drew)); exact HO103.out))) (below_size (by repeat (first | (with_reducible first | exact HB.out | apply below_alloc | apply pw_below_drewN | apply below_drew1) | exact HB.out)))); have n2_ := Aside0.mk (below_step (by repeat (first | (with_reducible first | exact HB.out | apply below_alloc | apply pw_below_drewN | apply below_drew1) | exact HB.out)) hb); clear HO103; clear HB; have HO103 := n0_; have HO108 := n1_; have HB := n2_; clear n0_ n1_ n2_; clear hb ho18; obtain ⟨Ao19, co19, eo19⟩ := Kd.R_slice HO108.out; subst eo19) | ((with_reducible refine gate_callee (f := 26) rfl ?_); refine goesL_ (some 12) rfl rfl Try.func26 (by kernel_rfl) rfl #[.slice Ao19 y106.length co19] rfl (by (try simp only [List.map_toArray, List.map_cons, List.map_nil]); first | done | rfl | (simp only [List.length_drop, List.length_take]; rfl)) ?_; (with_reducible refine (weight_Sum.calls _ _ y106 t109 t110 _ ?side1 ?side2 A2.out).mono ?_); (case side1 => repeat (first | exact (Kd.R_reads' HO108.out).2.2 | (with_reducible refine Kd.C_alloc ?_ _) | (with_reducible refine Kd.C_drewN ?_ _) | (with_reducible refine Kd.C_drew ?_))); (case side2 => exact (Kd.R_reads' HO108.out).2.1); rintro e w20 ⟨rfl, hb⟩; refine ⟨_, rfl, ?_⟩; have n0_ := Aside0.mk (Kd.R_below (by (with_reducible repeat (first | apply Kd.R_alloc | apply Kd.R_drewN | apply Kd.R_drew)); exact HO103.out) hb); have n1_ := Aside0.mk (Kd.R_below (by (with_reducible repeat (first | apply Kd.R_alloc | apply Kd.R_drewN | apply Kd.R_drew)); exact HO108.out) hb); have n2_ := Aside0.mk (below_step (by repeat (first | (with_reducible first | exact HB.out | apply below_alloc | apply pw_below_drewN | apply below_drew1) | exact HB.out)) hb); clear HO103; clear HO108; clear HB; have HO103 := n0_; have HO108 := n1_; have HB := n2_; clear n0_ n1_ n2_; (try clear hb); (try clear hb2); (try clear hk); (try clear hi)))
      go_ret
      exact ⟨by first | rfl | (simp [errW_none, errW_some] <;> rfl) | (simp [*, errW_none, errW_some] <;> rfl), by repeat (first | (with_reducible first | exact HB.out | apply below_alloc | apply pw_below_drewN | apply below_drew1) | exact HB.out)⟩
  · rw [if_neg c3] at H
    have c3b0 : (t105 == 0) = false := beq_eq_false_iff_ne.mpr c3
    have c3b1 : (t105 != 0) = true := bne_iff_ne.mpr c3
    obtain rfl := Option.some.inj H
    go_enter Try.func25, Try.ntmps25
    go_wp2_with (first | ((with_reducible refine gate_dst (N := 6) rfl ?_); refine Kd.R_lit (Kd.int .i64) _ 2 ?hg (N := 6) ?hd (xs := ([9223372036854775807, 1, (-1)] : List Int)) (inner := [.int .i64 9223372036854775807, .int .i64 1, .int .i64 (-1)]) (ok := fun _ => True) (okp := fun _ => True) ?hr ?hp (fun _ hk => hk) trivial (Below.refl _ _) (Nat.le_refl _) (by simp) ?_; (case hd => rfl); (case hg => rfl); (case hr => first | (go_simp; done) | (go_simp; rfl)); (case hp => exact (Reps.one (show Kd.M (Kd.int .i64) _ _ _ 9223372036854775807 [.int .i64 9223372036854775807] from rfl) (Reps.one (show Kd.M (Kd.int .i64) _ _ _ 1 [.int .i64 1] from rfl) (Reps.one (show Kd.M (Kd.int .i64) _ _ _ (-1) [.int .i64 (-1)] from rfl) (Reps.none _ _))))); intro v102 w21 ho22 hb hg_ hnew_; clear hg_ hnew_; (first | rw [← Ny101.out] at ho22 | (simp only [Int.reduceToNat] at ho22; rw [← Ny101.out] at ho22)); have n0_ := Aside0.mk (Kd.R_lower ho22 (below_size (by repeat (first | (with_reducible first | exact HB.out | apply below_alloc | apply pw_below_drewN | apply below_drew1) | exact HB.out)))); have n1_ := Aside0.mk (below_step (by repeat (first | (with_reducible first | exact HB.out | apply below_alloc | apply pw_below_drewN | apply below_drew1) | exact HB.out)) hb); clear HB; have HO103 := n0_; have HB := n1_; clear n0_ n1_; clear hb ho22; obtain ⟨Ao23, co23, eo23⟩ := Kd.R_slice HO103.out; subst eo23) | ((with_reducible refine gate_callee (f := 26) rfl ?_); refine goesL_ (some 7) rfl rfl Try.func26 (by kernel_rfl) rfl #[.slice Ao23 y101.length co23] rfl (by (try simp only [List.map_toArray, List.map_cons, List.map_nil]); first | done | rfl | (simp only [List.length_drop, List.length_take]; rfl)) ?_; (with_reducible refine (weight_Sum.calls _ _ y101 t104 t105 _ ?side1 ?side2 A1.out).mono ?_); (case side1 => repeat (first | exact (Kd.R_reads' HO103.out).2.2 | (with_reducible refine Kd.C_alloc ?_ _) | (with_reducible refine Kd.C_drewN ?_ _) | (with_reducible refine Kd.C_drew ?_))); (case side2 => exact (Kd.R_reads' HO103.out).2.1); rintro e w24 ⟨rfl, hb⟩; refine ⟨_, rfl, ?_⟩; have n0_ := Aside0.mk (Kd.R_below (by (with_reducible repeat (first | apply Kd.R_alloc | apply Kd.R_drewN | apply Kd.R_drew)); exact HO103.out) hb); have n1_ := Aside0.mk (below_step (by repeat (first | (with_reducible first | exact HB.out | apply below_alloc | apply pw_below_drewN | apply below_drew1) | exact HB.out)) hb); clear HO103; clear HB; have HO103 := n0_; have HB := n1_; clear n0_ n1_; (try clear hb); (try clear hb2); (try clear hk); (try clear hi)) | ((with_reducible refine gate_dst (N := 11) rfl ?_); refine Kd.R_lit (Kd.int .i64) _ 2 ?hg (N := 11) ?hd (xs := ([9223372036854775807, 1] : List Int)) (inner := [.int .i64 9223372036854775807, .int .i64 1]) (ok := fun _ => True) (okp := fun _ => True) ?hr ?hp (fun _ hk => hk) trivial (Below.refl _ _) (Nat.le_refl _) (by simp) ?_; (case hd => rfl); (case hg => rfl); (case hr => first | (go_simp; done) | (go_simp; rfl)); (case hp => exact (Reps.one (show Kd.M (Kd.int .i64) _ _ _ 9223372036854775807 [.int .i64 9223372036854775807] from rfl) (Reps.one (show Kd.M (Kd.int .i64) _ _ _ 1 [.int .i64 1] from rfl) (Reps.none _ _)))); intro v107 w25 ho26 hb hg_ hnew_; clear hg_ hnew_; (first | rw [← Ny106.out] at ho26 | (simp only [Int.reduceToNat] at ho26; rw [← Ny106.out] at ho26)); have n0_ := Aside0.mk (Kd.R_elder' (by (with_reducible repeat (first | apply Kd.R_alloc | apply Kd.R_drewN | apply Kd.R_drew)); exact HO103.out) (Kd.R_base ho26) hb); have n1_ := Aside0.mk (Kd.R_lower (Kd.R_new' ho26 (Kd.R_lt (by (with_reducible repeat (first | apply Kd.R_alloc | apply Kd.R_drewN | apply Kd.R_drew)); exact HO103.out))) (below_size (by repeat (first | (with_reducible first | exact HB.out | apply below_alloc | apply pw_below_drewN | apply below_drew1) | exact HB.out)))); have n2_ := Aside0.mk (below_step (by repeat (first | (with_reducible first | exact HB.out | apply below_alloc | apply pw_below_drewN | apply below_drew1) | exact HB.out)) hb); clear HO103; clear HB; have HO103 := n0_; have HO108 := n1_; have HB := n2_; clear n0_ n1_ n2_; clear hb ho26; obtain ⟨Ao27, co27, eo27⟩ := Kd.R_slice HO108.out; subst eo27) | ((with_reducible refine gate_callee (f := 26) rfl ?_); refine goesL_ (some 12) rfl rfl Try.func26 (by kernel_rfl) rfl #[.slice Ao27 y106.length co27] rfl (by (try simp only [List.map_toArray, List.map_cons, List.map_nil]); first | done | rfl | (simp only [List.length_drop, List.length_take]; rfl)) ?_; (with_reducible refine (weight_Sum.calls _ _ y106 t109 t110 _ ?side1 ?side2 A2.out).mono ?_); (case side1 => repeat (first | exact (Kd.R_reads' HO108.out).2.2 | (with_reducible refine Kd.C_alloc ?_ _) | (with_reducible refine Kd.C_drewN ?_ _) | (with_reducible refine Kd.C_drew ?_))); (case side2 => exact (Kd.R_reads' HO108.out).2.1); rintro e w28 ⟨rfl, hb⟩; refine ⟨_, rfl, ?_⟩; have n0_ := Aside0.mk (Kd.R_below (by (with_reducible repeat (first | apply Kd.R_alloc | apply Kd.R_drewN | apply Kd.R_drew)); exact HO103.out) hb); have n1_ := Aside0.mk (Kd.R_below (by (with_reducible repeat (first | apply Kd.R_alloc | apply Kd.R_drewN | apply Kd.R_drew)); exact HO108.out) hb); have n2_ := Aside0.mk (below_step (by repeat (first | (with_reducible first | exact HB.out | apply below_alloc | apply pw_below_drewN | apply below_drew1) | exact HB.out)) hb); clear HO103; clear HO108; clear HB; have HO103 := n0_; have HO108 := n1_; have HB := n2_; clear n0_ n1_ n2_; (try clear hb); (try clear hb2); (try clear hk); (try clear hi)))
    go_ret
    exact ⟨by first | rfl | (simp [errW_none, errW_some] <;> rfl) | (simp [*, errW_none, errW_some] <;> rfl), by repeat (first | (with_reducible first | exact HB.out | apply below_alloc | apply pw_below_drewN | apply below_drew1) | exact HB.out)⟩

-- NOT PRINTED: function 47 (bits_Add64)

-- NOT PRINTED: function 42 (weight_wide_plus)

-- NOT PRINTED: function 31 (weight_Total_Add)

/-! ### weight_Total_Count: function 32 -/
def weight_Total_Count.f : Option Int := none
set_option maxRecDepth 100000 in
theorem weight_Total_Count.count_calls (S : Int) (g n : Nat) (W : World) (hg : weight_Sum.At W g S n) :
    Calls Try.prog 32 #[.pointer (some ⟨g, 0, none⟩)] W fun e w' => e = .returned (.int .i64 (n : Int)) ∧ W = w' := by
  have hb : W.heap[g]? = some (.cells #[.int .u64 (weight_Sum.lo S : Nat), .int .u64 (weight_Sum.hi S : Nat), .int .i64 (n : Int)] 53 (0, 0)) := hg
  have c2 : W.cell? ⟨g, 2, none⟩ = some (.int .i64 (n : Int)) := (blk_cell hb 2).trans rfl
  clear hg hb
  go_enter Try.func32, Try.ntmps32
  go_wp2
  go_ret
  exact ⟨rfl, rfl⟩
set_option maxRecDepth 100000 in
theorem weight_Total_Count.nil_calls (W : World) : Calls Try.prog 32 #[.pointer none] W fun e w' => e = .returned (.int .i64 0) ∧ W = w' := by
  go_enter Try.func32, Try.ntmps32
  go_wp2
  go_ret
  exact ⟨rfl, rfl⟩
set_option maxRecDepth 100000 in
theorem weight_Total_Count.nil_add (a : Int) (W : World) : Calls Try.prog 31 #[.pointer none, .int .i64 a] W fun e w' => e = .returned (.int .i64 1) ∧ W = w' := by
  go_enter Try.func31, Try.ntmps31
  go_wp2
  go_ret
  exact ⟨rfl, rfl⟩
set_option maxRecDepth 100000 in
theorem weight_Total_Count.nil_sum (W : World) : Calls Try.prog 33 #[.pointer none] W fun e w' => e = .returned (.tuple #[.int .i64 0, .int .i64 1]) ∧ W = w' := by
  go_enter Try.func33, Try.ntmps33
  go_wp2
  go_ret2
  exact ⟨rfl, rfl⟩

-- NOT PRINTED: function 43 (weight_wide_weight)

-- NOT PRINTED: function 33 (weight_Total_Sum)

/-! ### decklelaw07_WeightNone: function 12 -/
def decklelaw07_WeightNone.f (a0 : Int) : Option Bool := if decklelaw07_alive.f = some true ∧ -9223372036854775808 ≤ a0 ∧ a0 ≤ 9223372036854775807 then some true else none
set_option maxHeartbeats 4000000 in
set_option maxRecDepth 100000 in
theorem decklelaw07_WeightNone.calls (a0 : Int) (r : Bool) (w : World) (h : decklelaw07_WeightNone.f a0 = some r) :
    Calls Try.prog 12 #[.int .i64 a0] w fun e w' => e = .returned (.bool r) ∧ Below w.heap.size w w' := by
  unfold decklelaw07_WeightNone.f at h
  split at h
  case isFalse => cases h
  rename_i hc
  obtain ⟨hal, h0, h1⟩ := hc
  have HV := Aside0.mk (Option.some.inj h)
  have HA := Aside0.mk hal
  have e1 := Aside0.mk (show weight_Sum.f [] = some (0, 0) by decide +kernel)
  have e2 := Aside0.mk (show weight_Sum.f [a0] = some (a0, 0) by
    unfold weight_Sum.f
    rw [if_pos (by intro c hc; rw [List.mem_singleton] at hc; subst hc; exact ⟨h0, h1⟩)]
    unfold weight_Sum.fits
    simp [h0, h1])
  have e0 := Aside0.mk (show weight_Sum.fits 0 = (0, 0) by decide)
  clear h hal h0 h1
  have HB := Aside0.mk (Below.refl w.heap.size w)
  go_enter Try.func12, Try.ntmps12
  go_wp2_with fail
  refine (weight_Total_Count.nil_sum _).mono ?_
  rintro e w1 ⟨rfl, rfl⟩
  have hat : weight_Sum.At (w.alloc (.cells #[.int .u64 0, .int .u64 0, .int .i64 0] 53)) w.heap.size 0 0 := heap_alloc_new w _
  have HAT := Aside0.mk hat
  have HB1 := Aside0.mk (below_alloc HB.out (.cells #[.int .u64 0, .int .u64 0, .int .i64 0] 53))
  clear hat HB
  go_wp2_with fail
  refine (weight_Sum.sum_calls 0 _ 0 (by decide) (by decide) _ HAT.out).mono ?_
  rw [e0.out]
  rintro e w2 ⟨rfl, hb⟩
  have HB2 := Aside0.mk (below_step HB1.out hb)
  clear hb HB1 HAT
  go_wp2_with fail
  refine (weight_Sum.calls _ 0 [] 0 0 _ (Kd.C_of_reads (d := (0 : Int)) (h1 := fun _ => rfl) ⟨rfl, by decide, fun z => absurd z (by decide)⟩) (by decide) e1.out).mono ?_
  rintro e w3 ⟨rfl, hb⟩
  have HB3 := Aside0.mk (below_step HB2.out hb)
  clear hb HB2
  go_wp2_with fail
  refine (weight_Sum.calls _ 1 [a0] a0 0 _ (Kd.C_of_reads (d := (0 : Int)) (h1 := fun _ => rfl) ⟨rfl, by simp, fun z => ⟨_, rfl, fun j hj => ?_⟩⟩) (by simp) e2.out).mono ?_
  · obtain rfl : j = 0 := by simp at hj; omega
    rw [add_plain]
    exact (blk_cell (heap_alloc_new w3 _) 0).trans rfl
  rintro e w4 ⟨rfl, hb⟩
  have HB4 := Aside0.mk (below_step (below_alloc HB3.out _) hb)
  clear hb HB3
  go_wp2_with fail
  refine (decklelaw07_alive.calls true _ HA.out).mono ?_
  rintro e w5 ⟨rfl, hb⟩
  have HB5 := Aside0.mk (below_step HB4.out hb)
  clear hb HB4
  go_wp2_with fail
  refine (weight_Total_Count.nil_add _ _).mono ?_
  rintro e w6 ⟨rfl, rfl⟩
  go_wp2_with fail
  refine (weight_Total_Count.nil_calls _).mono ?_
  rintro e w7 ⟨rfl, rfl⟩
  go_wp2
  go_ret
  exact ⟨by rw [← HV.out]; first | rfl | simp, by repeat (first | exact HB5.out | apply below_alloc | apply pw_below_drewN | apply below_drew1)⟩


/-- THE ONE PURE STATEMENT of decklelaw07_WeightNone: yours. -/
def decklelaw07_WeightNone.Pure : Prop := ∀ (a0 : Int), (Lit.int .i64 a0).wf = true → decklelaw07_WeightNone.f a0 = some true
theorem decklelaw07_WeightNone.walk (P : decklelaw07_WeightNone.Pure) (a0 : Int) (w : World) (w0 : (Lit.int .i64 a0).wf = true) :
    Calls Try.prog 12 #[.int .i64 a0] w fun e w' => e = .returned (.bool true) ∧ Below w.heap.size w w' := by
  have h := P a0 w0
  refine (decklelaw07_WeightNone.calls a0 true w h).mono ?_
  rintro e w' ⟨rfl, hd⟩
  exact ⟨rfl, hd⟩

end Go.Proofs.Ytkngkjgapgnmbaa.PWeightNone
