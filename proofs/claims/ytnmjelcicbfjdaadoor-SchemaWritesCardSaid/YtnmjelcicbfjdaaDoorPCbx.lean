-- WRITTEN by a program of this session's own (wip/gen/mkprint.py), over the kit's print: not printed by print.sh itself
import Derived.Test.YtnmjelcicbfjdaaDoorProg
import Derived.Lib.SlBytesConst
import Derived.Outline
import Derived.Laws.BitsAllLaws
import Derived.Laws.Externs
import Derived.Below
import Derived.Deep.Draws
import Derived.Deep.AppendLies
import Derived.Maps.AppendAt
import Derived.OwnWalk
import Derived.Laws.BytesArg
import Derived.Laws.MakeOwn
import Derived.Laws.OwnMore
import Derived.Deep.OwnRows
import Derived.Tactics
import Derived.Lib.ConvBytes
import Derived.Laws.Slices
import Derived.WalkKit
import Derived.KernelRfl
import Derived.RowKit3
import Derived.Deep.LoopGhost
import Derived.Deep.QuietTactic
import Derived.BigQuiet
import Derived.WideLaws
import Derived.Deep.DeepCutAuto
import Derived.Deep.CutBlock
import Derived.Deep.RegionHeld3
import Derived.Laws.Rows
import Derived.Lib.AppendStr
import Derived.ArgAppend
import Derived.Laws.IdiomCopy
import Derived.OrdersHeld
import Derived.Laws.BitsLemmas
import Derived.RowKit
import Derived.Test.YtnmjelcicbfjdaaDoorUt
import Derived.Test.YtnmjelcicbfjdaaDoorQTail
import Derived.Test.YtnmjelcicbfjdaaDoorWWords
import Derived.Test.YtnmjelcicbfjdaaDoorWLast
import Derived.Test.YtnmjelcicbfjdaaDoorWTab
import Derived.Test.YtnmjelcicbfjdaaDoorWFour
import Derived.Test.YtnmjelcicbfjdaaDoorWQPut
import Derived.Test.YtnmjelcicbfjdaaDoorWApart
import Derived.Test.YtnmjelcicbfjdaaDoorWArr
import Derived.Test.YtnmjelcicbfjdaaDoorWZeros
import Derived.Test.YtnmjelcicbfjdaaDoorWFoot
import Derived.Test.YtnmjelcicbfjdaaDoorWKept
import Derived.Test.YtnmjelcicbfjdaaDoorWShare
import Derived.Test.YtnmjelcicbfjdaaDoorWN
import Derived.Test.YtnmjelcicbfjdaaDoorWFootNe
import Derived.Test.YtnmjelcicbfjdaaDoorWAt
import Derived.Test.YtnmjelcicbfjdaaDoorWEqStruct
import Derived.Test.YtnmjelcicbfjdaaDoorWRepsOne
import Derived.Test.YtnmjelcicbfjdaaDoorWInv
import Derived.Test.YtnmjelcicbfjdaaDoorWInvWords
import Derived.Test.YtnmjelcicbfjdaaDoorWGuard
import Derived.Test.YtnmjelcicbfjdaaDoorWNEv
import Derived.Test.YtnmjelcicbfjdaaDoorWMore
namespace Go.Proofs.YtnmjelcicbfjdaaDoor.PCb
open Go.RowKit Go.Proofs.YtnmjelcicbfjdaaDoorW.PrintWords Go.Proofs.YtnmjelcicbfjdaaDoorW.PrintLast Go.Proofs.YtnmjelcicbfjdaaDoorW.PrintMore
attribute [local go_sem] max2_int min2_int max_two min_two max_three min_three max_four min_four   -- for this text's walks alone
set_option linter.unusedVariables false
set_option linter.unusedSimpArgs false



def errW : Option Int → Value
  | none => .nilIface
  | some c => .iface 0 (.int .i64 c)
theorem errW_none : errW none = .nilIface := rfl
theorem errW_some (c : Int) : errW (some c) = .iface 0 (.int .i64 c) := rfl

-- the values' own types

end Go.Proofs.YtnmjelcicbfjdaaDoor.PCb
namespace Go.Proofs.YtnmjelcicbfjdaaDoor.PCb
open Go.RowKit Go.Proofs.YtnmjelcicbfjdaaDoorW.PrintWords Go.Proofs.YtnmjelcicbfjdaaDoorW.PrintLast Go.Proofs.YtnmjelcicbfjdaaDoorW.PrintMore
attribute [local go_sem] max2_int min2_int max_two min_two max_three min_three max_four min_four   -- for this text's walks alone
set_option linter.unusedVariables false
set_option linter.unusedSimpArgs false

/-! ### crc_step: function 116 -/
def crc_step.one (s : Nat) : Nat := if s % 2 = 1 then (s / 2) ^^^ 2197175160 else s / 2
def crc_step.iter : Nat → Nat → Nat
  | 0, s => s
  | k + 1, s => crc_step.one (crc_step.iter k s)
def crc_step.st (s c : Nat) : Nat := crc_step.iter 8 (s ^^^ c)
def crc_step.f (a0 a1 : Int) : Option Int := some (crc_step.st a0.toNat a1.toNat : Nat)
theorem crc_step.one_lt {s : Nat} (h : s < 4294967296) : crc_step.one s < 4294967296 := by
  unfold crc_step.one
  split
  · exact Nat.xor_lt_two_pow (n := 32) (by omega) (by omega)
  · omega
theorem crc_step.iter_lt {s : Nat} (h : s < 4294967296) (k : Nat) : crc_step.iter k s < 4294967296 := by
  induction k with
  | zero => exact h
  | succ k ih => exact crc_step.one_lt ih
theorem crc_step.is_one {x : Nat} (h : x < 4294967296) : bits .xor .u32 ((x : Int) / 2) (bits .and .u32 2197175160 (-bits .and .u32 (x : Int) 1 % 4294967296)) = (crc_step.one x : Nat) := by
  have h1 : bits .and .u32 (x : Int) 1 = (x : Int) % 2 := by
    have := bits_mask .u32 32 (by decide) (fun n a b => by rw [IntKind.wrap_u32]; omega) 1 (by decide) (x : Int) (by omega) (by omega)
    simpa using this
  rw [h1, show ((x : Int) / 2) = ((x / 2 : Nat) : Int) by omega]
  unfold crc_step.one
  by_cases e : x % 2 = 1
  · rw [if_pos e, show (-((x : Int) % 2) % 4294967296) = 4294967295 by omega]
    rw [show bits .and .u32 2197175160 4294967295 = ((2197175160 : Nat) : Int) by decide +kernel]
    exact u32_xor_nat _ _ (by omega) (by omega)
  · rw [if_neg e, show (-((x : Int) % 2) % 4294967296) = 0 by omega]
    rw [show bits .and .u32 2197175160 0 = ((0 : Nat) : Int) by decide +kernel, u32_xor_nat _ _ (by omega) (by omega)]
    simp
theorem crc_step.calls_nat (s c : Nat) (hs : s < 4294967296) (hc : c < 256) (w : World) :
    Calls Tryd.prog 116 #[.int .u32 (s : Int), .int .u8 (c : Int)] w fun e w' => e = .returned (.int .u32 (crc_step.st s c : Nat)) ∧ Drawn0 w w' := by
  have hx : s ^^^ c < 4294967296 := Nat.xor_lt_two_pow (n := 32) (by omega) (by omega)
  go_enter Tryd.func116, Tryd.ntmps116
  go_wp2
  go_loop [0, 9] (fun v i => ∃ k : Nat, k ≤ 8 ∧ i = .int .i64 k ∧ v = .int .u32 (crc_step.iter k (s ^^^ c) : Nat)) (fun _ i => 8 - (intOf i).toNat)
  case atStart => exact ⟨0, by omega, rfl, by rw [u32_xor_nat s c hs (by omega)]; rfl⟩
  case round =>
    obtain ⟨k, hk, rfl, rfl⟩ := hrel
    have hlt := crc_step.iter_lt hx k
    by_cases h8 : k < 8
    · have HS := Aside0.mk (show crc_step.iter (k + 1) (s ^^^ c) = crc_step.one (crc_step.iter k (s ^^^ c)) from rfl)
      generalize crc_step.iter k (s ^^^ c) = x at *
      go_wp2
      go_round
      case rel => exact ⟨k + 1, by omega, by go_num, by rw [HS.out, crc_step.is_one hlt]⟩
      case measure => simp [intOf]; omega
    · obtain rfl : k = 8 := by omega
      go_wp2
      go_ret
      exact ⟨rfl, Drawn0.refl _⟩
theorem crc_step.calls (a0 a1 : Int) (r : Int) (w : World) (h0 : 0 ≤ a0 ∧ a0 < 4294967296) (h1 : 0 ≤ a1 ∧ a1 < 256) (h : crc_step.f a0 a1 = some r) :
    Calls Tryd.prog 116 #[.int .u32 a0, .int .u8 a1] w fun e w' => e = .returned (.int .u32 r) ∧ Drawn0 w w' := by
  obtain ⟨s, rfl⟩ := Int.eq_ofNat_of_zero_le h0.1
  obtain ⟨c, rfl⟩ := Int.eq_ofNat_of_zero_le h1.1
  obtain rfl := Option.some.inj h
  exact crc_step.calls_nat s c (by omega) (by omega) w

/-! ### crc_More: function 84 -/
def crc_More.neg (x : Int) : Int := bits .xor .u32 4294967295 x
theorem crc_More.neg_is (s : Nat) (h : s < 4294967296) : crc_More.neg (s : Int) = ((4294967295 - s : Nat) : Int) := by
  unfold crc_More.neg
  rw [show (4294967295 : Int) = ((4294967295 : Nat) : Int) from rfl, u32_xor_nat _ _ (by omega) h]
  have : (4294967295 ^^^ s) = 4294967295 - s := by
    have e := congrArg BitVec.toNat (BitVec.allOnes_xor (x := BitVec.ofNat 32 s))
    rw [BitVec.toNat_xor, BitVec.toNat_not, BitVec.toNat_ofNat, BitVec.toNat_allOnes, Nat.mod_eq_of_lt (by omega)] at e
    have e2 : (2 ^ 32 - 1 : Nat) = 4294967295 := by decide
    rw [e2] at e
    omega
  rw [this]
def crc_More.fold : Nat → List Int → Nat
  | s, [] => s
  | s, c :: t => crc_More.fold (crc_step.st s c.toNat) t
def crc_More.f (a0 : Int) (l1 : List Int) : Option Int := if (0 ≤ a0 ∧ a0 < 4294967296) ∧ ∀ c ∈ l1, 0 ≤ c ∧ c < 256 then some ((4294967295 - crc_More.fold (4294967295 - a0.toNat) l1 : Nat) : Int) else none
theorem crc_More.st_lt {s c : Nat} (hs : s < 4294967296) (hc : c < 256) : crc_step.st s c < 4294967296 := crc_step.iter_lt (Nat.xor_lt_two_pow (n := 32) (by omega) (by omega)) 8
theorem crc_More.fold_snoc (l : List Int) (c : Int) : ∀ s, crc_More.fold s (l ++ [c]) = crc_step.st (crc_More.fold s l) c.toNat := by
  induction l with
  | nil => intro s; rfl
  | cons d t ih => intro s; exact ih _
theorem crc_More.fold_lt : ∀ (l : List Int) (s : Nat), (∀ c ∈ l, 0 ≤ c ∧ c < 256) → s < 4294967296 → crc_More.fold s l < 4294967296
  | [], s, _, h => h
  | c :: t, s, hb, h => crc_More.fold_lt t _ (fun d hd => hb d (List.mem_cons_of_mem _ hd)) (crc_More.st_lt h (by have := hb c (List.mem_cons_self ..); omega))
set_option maxHeartbeats 1000000 in
theorem crc_More.one_calls (s c b : Nat) (hs : s < 4294967296) (hc : c < 256) (w : World) (hb : w.heap[b]? = some (.cells #[.int .u32 (s : Int)] 50 (0, 0))) :
    Calls Tryd.prog 115 #[.int .u8 (c : Int), .pointer (some ⟨b, 0, none⟩)] w fun e w' => e = .returned (.tuple #[]) ∧ ∃ n, w' = (w.drewN n).setCell ⟨b, 0, none⟩ (.int .u32 (crc_step.st s c : Nat)) := by
  have hcell : w.cell? ⟨b, 0, none⟩ = some (.int .u32 (s : Int)) := (blk_cell hb 0).trans rfl
  have hfr : w.frozen? ⟨b, 0, none⟩ = false := blk_frozen hb 0
  clear hb
  go_enter Tryd.func115, Tryd.ntmps115
  go_wp2_with fail
  refine (crc_step.calls_nat s c hs hc _).mono ?_
  rintro e w1 ⟨rfl, ⟨n, rfl⟩⟩
  go_wp2
  go_end0
  exact ⟨rfl, n, rfl⟩
def crc_More.upto (s : Nat) (l : List Int) (k : Nat) : Nat := crc_More.fold (4294967295 - s) (l.take k)
set_option maxHeartbeats 4000000 in
set_option maxRecDepth 100000 in
theorem crc_More.calls (a0 : Int) (A1 : Option Addr) (c1 : Nat) (l1 : List Int) (r : Int) (w : World) (hr1 : Kd.C (Kd.int .u8) w A1 l1.length l1) (hc1 : l1.length ≤ c1) (h : crc_More.f a0 l1 = some r) :
    Calls Tryd.prog 84 #[.int .u32 a0, .slice A1 l1.length c1] w fun e w' => e = .returned (.int .u32 r) ∧ Below w.heap.size w w' := by
  unfold crc_More.f at h
  split at h
  case isFalse => cases h
  rename_i hcond
  have HV := Aside0.mk (Option.some.inj h)
  obtain ⟨⟨h0, h1⟩, hb⟩ := hcond
  clear h
  obtain ⟨s, rfl⟩ := Int.eq_ofNat_of_zero_le h0
  have HR1 := Aside0.mk hr1
  have HBY := Aside0.mk hb
  have HM := Aside0.mk hr1.2.1
  clear hr1 hb
  have hnv : ∀ x : Int, bits .xor .u32 (if IntKind.u32.signed = true then (-1 : Int) else IntKind.u32.max) x = crc_More.neg x := fun _ => rfl
  have hmf : ∀ (fn : Fn) (first cap : Array Value) (w : World), (Instr.makeFunc fn first cap).run Tryd.prog w = .ok (.func fn first cap) w := fun _ _ _ _ => rfl
  go_enter Tryd.func84, Tryd.ntmps84
  go_wp2_with fail
  go_loopw [14] (fun i wr => ∃ k : Nat, k ≤ l1.length ∧ i = .int .i64 k ∧ Aside0 (wr.heap[w.heap.size]? = some (.cells #[.int .u32 (crc_More.upto s l1 k : Nat)] 50 (0, 0))) ∧ Aside0 (Below w.heap.size w wr)) (fun i _ => l1.length - (intOf i).toNat)
  case atStart => exact ⟨0, by omega, rfl, ⟨by rw [crc_More.neg_is s (by omega)]; exact heap_alloc_new _ _⟩, ⟨below_alloc (Below.refl _ _) _⟩⟩
  case round =>
    obtain ⟨k, hk, rfl, HBk, HBw⟩ := hrel
    have hul : crc_More.upto s l1 k < 4294967296 := crc_More.fold_lt _ _ (fun c hc => HBY.out c (List.mem_of_mem_take hc)) (by omega)
    by_cases hlt : k < l1.length
    · obtain ⟨ad, e, hx⟩ := Kd.at_int (Kd.C_below HR1.out HBw.out) (k : Int) (by omega) (by omega)
      cases e
      have hmem : l1[k] ∈ l1 := List.getElem_mem hlt
      have hrd : rd l1 (k : Int) = l1[k] := by unfold rd; rw [Int.toNat_natCast, List.getD_eq_getElem?_getD, List.getElem?_eq_getElem hlt]; rfl
      have hby := HBY.out _ hmem
      obtain ⟨c, hc⟩ := Int.eq_ofNat_of_zero_le hby.1
      have HU := Aside0.mk (show crc_More.upto s l1 (k + 1) = crc_step.st (crc_More.upto s l1 k) c by unfold crc_More.upto; rw [List.take_succ_eq_append_getElem hlt, crc_More.fold_snoc, hc]; rfl)
      rw [hrd, hc, Int.toNat_natCast] at hx
      have hc2 : c < 256 := by omega
      clear hmem hrd hby hc
      generalize crc_More.upto s l1 k = q at *
      have t1 : decide ((k : Int) < (l1.length : Int)) = true := decide_eq_true (by omega)
      have t2 : decide (k < l1.length) = true := decide_eq_true hlt
      have p1 : (0 ≤ (k : Int)) = True := eq_true (by omega)
      have p2 : ((k : Int) < (l1.length : Int)) = True := eq_true (by omega)
      have HK := Aside0.mk hlt
      clear hlt hk
      have hmax : (k : Int) + 1 ≤ 9223372036854775807 := by have := HM.out; have := HK.out; omega
      go_wp2_with fail
      refine (crc_More.one_calls q c _ hul hc2 _ HBk.out).mono ?_
      rintro e w1 ⟨rfl, n, rfl⟩
      go_wp2
      go_roundw
      case rel => exact ⟨k + 1, HK.out, by go_num, ⟨by rw [HU.out]; exact (blk_set (blk_drewN HBk.out n) 0 _).trans rfl⟩, ⟨below_set (pw_below_drewN HBw.out n) (Nat.le_refl _)⟩⟩
      case measure => have := HK.out; simp [intOf]; omega
    · have hkl : k = l1.length := by omega
      have hcell : wr.cell? ⟨w.heap.size, 0, none⟩ = some (.int .u32 (crc_More.upto s l1 k : Nat)) := (blk_cell HBk.out 0).trans rfl
      have HE := Aside0.mk (show crc_More.neg (crc_More.upto s l1 k : Nat) = r by
        rw [crc_More.neg_is _ hul, ← HV.out]
        unfold crc_More.upto
        rw [hkl, List.take_length, Int.toNat_natCast])
      generalize crc_More.upto s l1 k = q at *
      have t1 : decide ((k : Int) < (l1.length : Int)) = false := decide_eq_false (by omega)
      have t2 : decide (k < l1.length) = false := decide_eq_false hlt
      clear hkl hlt hk hul
      go_wp2
      go_ret
      exact ⟨by rw [HE.out]; rfl, HBw.out⟩

/-! ### crc_Sum: function 56 -/
def crc_Sum.f (l0 : List Int) : Option (Int) := (crc_More.f 0 l0).bind fun t101 => (some t101)
set_option maxHeartbeats 8000000 in
set_option maxRecDepth 100000 in
theorem crc_Sum.calls (A0 : Option Addr) (c0 : Nat) (l0 : List Int) (r : Int) (w : World) (hr0 : Kd.C (Kd.int .u8) w A0 l0.length l0) (hc0 : l0.length ≤ c0) (h : crc_Sum.f l0 = some r) :
    Calls Tryd.prog 56 #[.slice A0 l0.length c0] w fun e w' => e = .returned (.int .u32 r) ∧ Below w.heap.size w w' := by
  have HR0 := Aside0.mk hr0
  have HC0 := Aside0.mk hc0
  clear hr0 hc0
  have HB := Aside0.mk (Below.refl w.heap.size w)
  have H : ((crc_More.f 0 l0).bind fun t101 => (some t101)) = some r := h
  clear h
  replace H := Option.bind_eq_some_iff.mp H
  obtain ⟨t101, A20, H⟩ := H
  replace H : (some t101) = some r := H
  have A2 := Aside0.mk A20
  clear A20
  obtain rfl := Option.some.inj H
  go_enter Tryd.func56, Tryd.ntmps56
  go_wp2_with (first | ((with_reducible refine gate_callee (f := 84) rfl ?_); refine goesL_ (some 4) rfl rfl Tryd.func84 (by kernel_rfl) rfl #[.int .u32 0, .slice A0 l0.length c0] rfl (by (try simp only [List.map_toArray, List.map_cons, List.map_nil]); first | done | rfl | (simp only [List.length_drop, List.length_take]; rfl)) ?_; (with_reducible refine (crc_More.calls 0 _ _ l0 t101 _ ?side1 ?side2 A2.out).mono ?_); (case side1 => repeat (first | exact HR0.out | (with_reducible refine Kd.C_alloc ?_ _) | (with_reducible refine Kd.C_drewN ?_ _) | (with_reducible refine Kd.C_drew ?_))); (case side2 => exact HC0.out); rintro e w3 ⟨rfl, hb⟩; refine ⟨_, rfl, ?_⟩; have n0_ := Aside0.mk (below_step (by repeat (first | (with_reducible first | exact HB.out | apply below_alloc | apply pw_below_drewN | apply below_drew1) | exact HB.out)) hb); clear HB; have HB := n0_; clear n0_; (try clear hb); (try clear hb2); (try clear hk); (try clear hi)))
  go_ret
  exact ⟨by first | rfl | (simp [errW_none, errW_some] <;> rfl) | (simp [*, errW_none, errW_some] <;> rfl), by repeat (first | (with_reducible first | exact HB.out | apply below_alloc | apply pw_below_drewN | apply below_drew1) | exact HB.out)⟩

/-! ### deckleref02_Sum: function 65 -/
mutual
def deckleref02_Sum.l0 : Nat → List Int → Int → Int → Option (Int)
  | 0, _, _, _ => none
  | k + 1, x0, x3, x4 => if x4 < (x0.length : Int) then (if 0 ≤ x4 then (deckleref02_Sum.l1 k x0 (Go.bits .xor .u32 x3 ((rd x0 x4) % 4294967296)) x4 0) else (none)) else (some (Go.bits .xor .u32 4294967295 x3))
def deckleref02_Sum.l1 : Nat → List Int → Int → Int → Int → Option (Int)
  | 0, _, _, _, _ => none
  | k + 1, x0, x3, x4, x5 => if x5 < 8 then (if (Int.tmod x3 2) = 1 then (deckleref02_Sum.l1 k x0 (Go.bits .xor .u32 ((Int.tdiv x3 2) % 4294967296) 2197175160) x4 (wrap64 (x5 + 1))) else (deckleref02_Sum.l1 k x0 ((Int.tdiv x3 2) % 4294967296) x4 (wrap64 (x5 + 1)))) else (deckleref02_Sum.l0 k x0 x3 (wrap64 (x4 + 1)))
end
def deckleref02_Sum.f (k : Nat) (l0 : List Int) : Option (Int) := deckleref02_Sum.l0 k l0 4294967295 0
theorem deckleref02_Sum.mono_l : ∀ k, (∀ y0 y1 y2, LeO (deckleref02_Sum.l0 k y0 y1 y2) (deckleref02_Sum.l0 (k + 1) y0 y1 y2)) ∧ (∀ y0 y1 y2 y3, LeO (deckleref02_Sum.l1 k y0 y1 y2 y3) (deckleref02_Sum.l1 (k + 1) y0 y1 y2 y3))
  | 0 => ⟨fun _ _ _ r h => by simp [deckleref02_Sum.l0] at h, fun _ _ _ _ r h => by simp [deckleref02_Sum.l1] at h⟩
  | k + 1 => by
    obtain ⟨ih0, ih1⟩ := deckleref02_Sum.mono_l k
    refine ⟨?_, ?_⟩
    · intro y0 y1 y2
      unfold deckleref02_Sum.l0
      repeat' first
      | (with_reducible exact ih0 _ _ _)
      | (with_reducible exact ih1 _ _ _ _)
      | (with_reducible exact LeO.refl _)
      | (with_reducible exact LeO.none _)
      | (with_reducible refine LeO.ite ?_ ?_)
      | (with_reducible refine LeO.bind ?_ (fun _ => ?_))
      | exact ih0 _ _ _
      | exact ih1 _ _ _ _
      | exact LeO.none _
      | refine LeO.ite ?_ ?_
      | refine LeO.bind ?_ (fun _ => ?_)
    · intro y0 y1 y2 y3
      unfold deckleref02_Sum.l1
      repeat' first
      | (with_reducible exact ih0 _ _ _)
      | (with_reducible exact ih1 _ _ _ _)
      | (with_reducible exact LeO.refl _)
      | (with_reducible exact LeO.none _)
      | (with_reducible refine LeO.ite ?_ ?_)
      | (with_reducible refine LeO.bind ?_ (fun _ => ?_))
      | exact ih0 _ _ _
      | exact ih1 _ _ _ _
      | exact LeO.none _
      | refine LeO.ite ?_ ?_
      | refine LeO.bind ?_ (fun _ => ?_)
theorem deckleref02_Sum.mono : ∀ a0 k, LeO (deckleref02_Sum.f k a0) (deckleref02_Sum.f (k + 1) a0) := by
  intro a0 k
  obtain ⟨ih0, ih1⟩ := deckleref02_Sum.mono_l k
  unfold deckleref02_Sum.f
  repeat' first
      | (with_reducible exact ih0 _ _ _)
      | (with_reducible exact ih1 _ _ _ _)
      | (with_reducible exact LeO.refl _)
      | (with_reducible exact LeO.none _)
      | (with_reducible refine LeO.ite ?_ ?_)
      | (with_reducible refine LeO.bind ?_ (fun _ => ?_))
      | exact ih0 _ _ _
      | exact ih1 _ _ _ _
      | exact LeO.none _
      | refine LeO.ite ?_ ?_
      | refine LeO.bind ?_ (fun _ => ?_)
set_option maxHeartbeats 8000000 in
set_option maxRecDepth 100000 in
theorem deckleref02_Sum.calls (k : Nat) (A0 : Option Addr) (c0 : Nat) (l0 : List Int) (r : Int) (w : World) (hr0 : Kd.C (Kd.int .u8) w A0 l0.length l0) (hc0 : l0.length ≤ c0) (h : deckleref02_Sum.f k l0 = some r) :
    Calls Tryd.prog 65 #[.slice A0 l0.length c0] w fun e w' => e = .returned (.int .u32 r) ∧ Drawn0 w w' := by
  have HR0 := Aside0.mk hr0
  have HC0 := Aside0.mk hc0
  clear hr0 hc0
  have H : (deckleref02_Sum.l0 k l0 4294967295 0) = some r := h
  clear h
  have H' := Aside0.mk H
  clear H
  go_enter Tryd.func65, Tryd.ntmps65
  go_wp2
  go_loopg [3, 4] k (fun kq v3 v4 w' => ∃ (x3_1 : Int) (x4_1 : Int), v3 = .int .u32 x3_1 ∧ v4 = .int .i64 x4_1 ∧ Aside0 (deckleref02_Sum.l0 kq l0 x3_1 x4_1 = some r) ∧ Aside0 (kq ≤ k) ∧ Drawn0 w w')
  case atStart => exact ⟨(4294967295), (0), (by first | rfl | (simp; done) | (simp [*]; done)), (by first | rfl | (simp; done) | (simp [*]; done)), H', ⟨Nat.le_refl _⟩, by repeat (first | exact Drawn0.refl _ | apply Drawn0.step)⟩
  case round =>
    clear H'
    obtain ⟨x3_1, x4_1, rfl, rfl, HA, HK1, ⟨m1, rfl⟩⟩ := hrel
    cases gk with
    | zero => exact absurd HA.out (by simp [deckleref02_Sum.l0])
    | succ k1 =>
      have H := HA.out
      clear HA
      simp only [deckleref02_Sum.l0] at H
      by_cases c2 : x4_1 < (l0.length : Int)
      · rw [if_pos c2] at H
        have c2b0 : decide (x4_1 < (l0.length : Int)) = true := decide_eq_true c2
        clear c2
        by_cases c3 : 0 ≤ x4_1
        · rw [if_pos c3] at H
          have c3b0 : decide (0 ≤ x4_1) = true := decide_eq_true c3
          clear c3
          have H' := Aside0.mk H
          clear H
          have p102 : 0 ≤ (x4_1 : Int) := of_decide_eq_true (by first | (with_reducible assumption) | assumption)
          have q102 : x4_1 < (l0.length : Int) := of_decide_eq_true (by first | (with_reducible assumption) | assumption)
          obtain ⟨ad102, e102, hx102_0⟩ := Kd.at_int HR0.out x4_1 p102 q102
          cases e102
          replace p102 := eq_true p102
          replace q102 := eq_true q102
          go_wp2
          go_loopg [3, 5] k1 (fun kq v3 v5 w' => ∃ (x3_2 : Int) (x5_2 : Int), v3 = .int .u32 x3_2 ∧ v5 = .int .i64 x5_2 ∧ Aside0 (deckleref02_Sum.l1 kq l0 x3_2 x4_1 x5_2 = some r) ∧ Aside0 (kq ≤ k1) ∧ Drawn0 w w')
          case atStart => exact ⟨(Go.bits .xor .u32 x3_1 ((rd l0 x4_1) % 4294967296)), (0), (by first | rfl | (simp; done) | (simp [*]; done)), (by first | rfl | (simp; done) | (simp [*]; done)), H', ⟨Nat.le_refl _⟩, by repeat (first | exact Drawn0.refl _ | apply Drawn0.step)⟩
          case round =>
            clear H'
            try clear p1
            try clear q1
            try clear hx1
            try clear c2
            try clear c2b0
            try clear p2
            try clear c3
            try clear c3b0
            try clear hx102_0
            try clear p102
            try clear q102
            obtain ⟨x3_2, x5_2, rfl, rfl, HA, HK2, ⟨m2, rfl⟩⟩ := hrel
            cases gk with
            | zero => exact absurd HA.out (by simp [deckleref02_Sum.l1])
            | succ k2 =>
              have H := HA.out
              clear HA
              simp only [deckleref02_Sum.l1] at H
              by_cases c4 : x5_2 < 8
              · rw [if_pos c4] at H
                have c4b0 : decide (x5_2 < 8) = true := decide_eq_true c4
                clear c4
                by_cases c5 : (Int.tmod x3_2 2) = 1
                · rw [if_pos c5] at H
                  have c5b0 : ((Int.tmod x3_2 2) == 1) = true := beq_iff_eq.mpr c5
                  have c5b1 : ((Int.tmod x3_2 2) != 1) = false := bne_eq_false_iff_eq.mpr c5
                  clear c5
                  have H' := Aside0.mk H
                  clear H
                  go_wp2
                  go_roundg k2
                  case measure => have := HK1.out; have := HK2.out; omega
                  case rel => exact ⟨(Go.bits .xor .u32 ((Int.tdiv x3_2 2) % 4294967296) 2197175160), (wrap64 (x5_2 + 1)), (by first | rfl | (simp; done) | (simp [*]; done)), (by first | rfl | (simp; done) | (simp [*]; done)), H', ⟨by have := HK1.out; have := HK2.out; omega⟩, by repeat (first | exact Drawn0.refl _ | apply Drawn0.step)⟩
                · rw [if_neg c5] at H
                  have c5b0 : ((Int.tmod x3_2 2) == 1) = false := beq_eq_false_iff_ne.mpr c5
                  have c5b1 : ((Int.tmod x3_2 2) != 1) = true := bne_iff_ne.mpr c5
                  have H' := Aside0.mk H
                  clear H
                  go_wp2
                  go_roundg k2
                  case measure => have := HK1.out; have := HK2.out; omega
                  case rel => exact ⟨((Int.tdiv x3_2 2) % 4294967296), (wrap64 (x5_2 + 1)), (by first | rfl | (simp; done) | (simp [*]; done)), (by first | rfl | (simp; done) | (simp [*]; done)), H', ⟨by have := HK1.out; have := HK2.out; omega⟩, by repeat (first | exact Drawn0.refl _ | apply Drawn0.step)⟩
              · rw [if_neg c4] at H
                have c4b0 : decide (x5_2 < 8) = false := decide_eq_false c4
                clear c4
                have H' := Aside0.mk H
                clear H
                go_wp2
                go_roundg k2
                case measure => have := HK1.out; have := HK2.out; omega
                case rel => exact ⟨(x3_2), (wrap64 (x4_1 + 1)), (by first | rfl | (simp; done) | (simp [*]; done)), (by first | rfl | (simp; done) | (simp [*]; done)), H', ⟨by have := HK1.out; have := HK2.out; omega⟩, by repeat (first | exact Drawn0.refl _ | apply Drawn0.step)⟩
        · rw [if_neg c3] at H
          exact absurd H (by simp)
      · rw [if_neg c2] at H
        have c2b0 : decide (x4_1 < (l0.length : Int)) = false := decide_eq_false c2
        clear c2
        obtain rfl := Option.some.inj H
        go_wp2
        go_ret
        exact ⟨by first | rfl | (simp; done) | (simp [*]; done), by repeat (first | exact Drawn0.refl _ | apply Drawn0.step)⟩

end Go.Proofs.YtnmjelcicbfjdaaDoor.PCb
