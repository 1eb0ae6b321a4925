-- WRITTEN by a program of this session's own (wip/gen/mkprint.py), over the kit's print: not printed by print.sh itself
import Derived.Test.YtmoopdhnnpjcfaaDoorProg
import Derived.Lib.SlBytesConst
import Derived.Outline
import Derived.Laws.BitsAllLaws
import Derived.Laws.Externs
import Derived.Below
import Derived.Deep.Draws
import Derived.Deep.AppendLies
import Derived.Maps.AppendAt
import Derived.OwnWalk
import Derived.Laws.BytesArg
import Derived.Laws.MakeOwn
import Derived.Laws.OwnMore
import Derived.Deep.OwnRows
import Derived.Tactics
import Derived.Lib.ConvBytes
import Derived.Laws.Slices
import Derived.WalkKit
import Derived.KernelRfl
import Derived.RowKit3
import Derived.Deep.LoopGhost
import Derived.Deep.QuietTactic
import Derived.BigQuiet
import Derived.WideLaws
import Derived.Deep.DeepCutAuto
import Derived.Deep.CutBlock
import Derived.Deep.RegionHeld3
import Derived.Laws.Rows
import Derived.Lib.AppendStr
import Derived.ArgAppend
import Derived.Laws.IdiomCopy
import Derived.OrdersHeld
import Derived.Laws.BitsLemmas
import Derived.RowKit
import Derived.Test.YtmoopdhnnpjcfaaDoorUt
import Derived.Test.YtmoopdhnnpjcfaaDoorQTail
import Derived.Test.YtmoopdhnnpjcfaaDoorWWords
import Derived.Test.YtmoopdhnnpjcfaaDoorWLast
import Derived.Test.YtmoopdhnnpjcfaaDoorWTab
import Derived.Test.YtmoopdhnnpjcfaaDoorWQPut
import Derived.Test.YtmoopdhnnpjcfaaDoorWApart
import Derived.Test.YtmoopdhnnpjcfaaDoorWArr
import Derived.Test.YtmoopdhnnpjcfaaDoorWZeros
import Derived.Test.YtmoopdhnnpjcfaaDoorWFoot
import Derived.Test.YtmoopdhnnpjcfaaDoorWKept
import Derived.Test.YtmoopdhnnpjcfaaDoorWShare
import Derived.Test.YtmoopdhnnpjcfaaDoorWN
import Derived.Test.YtmoopdhnnpjcfaaDoorWFootNe
import Derived.Test.YtmoopdhnnpjcfaaDoorWEqStruct
import Derived.Test.YtmoopdhnnpjcfaaDoorWRepsOne
import Derived.Test.YtmoopdhnnpjcfaaDoorWNEv
import Derived.Test.YtmoopdhnnpjcfaaDoorWMore
namespace Go.Proofs.YtmoopdhnnpjcfaaDoor.PCo
open Go.RowKit Go.Proofs.YtmoopdhnnpjcfaaDoorW.PrintWords Go.Proofs.YtmoopdhnnpjcfaaDoorW.PrintLast Go.Proofs.YtmoopdhnnpjcfaaDoorW.PrintMore
attribute [local go_sem] max2_int min2_int max_two min_two max_three min_three max_four min_four   -- for this text's walks alone
set_option linter.unusedVariables false
set_option linter.unusedSimpArgs false



def errW : Option Int → Value
  | none => .nilIface
  | some c => .iface 0 (.int .i64 c)
theorem errW_none : errW none = .nilIface := rfl
theorem errW_some (c : Int) : errW (some c) = .iface 0 (.int .i64 c) := rfl

theorem info5 : (Tryd.prog.info? 5).map (fun i => (i.zero, i.size, i.bytes)) = some (some (.int .u8 0), 1, 1) := by kernel_rfl
theorem info47 : (Tryd.prog.info? 47).map (fun i => (i.zero, i.size, i.bytes)) = some (some (.agg #[(.int .u64 0), (.string ⟨#[]⟩)]), 2, 24) := by kernel_rfl
-- the values' own types
/-! #### struct type 47 -/
structure S47 where
  f0 : Int
  f1 : ByteArray
def z47 : S47 := ⟨(0 : Int), (⟨#[]⟩ : ByteArray)⟩
def k47 : Kd S47 := Kd.iso (Kd.pair (Kd.int .u64) Kd.string) (fun x : S47 => (x.f0, x.f1))
theorem k47_heap : Kd.Heap k47 := Kd.heap_iso _ (Kd.heap_pair (Kd.heap_int .u64) Kd.heap_string)
theorem k47_open {w : World} {x : S47} {cs : List Value} (h : k47.K w x cs) : cs = [.int .u64 x.f0, .string x.f1] := by
  obtain ⟨_, _, rfl, rfl, rfl⟩ := h
  exact rfl
theorem k47_openM {w : World} {base : Nat} {ok : Nat → Prop} {x : S47} {cs : List Value} (h : k47.M w base ok x cs) : cs = [.int .u64 x.f0, .string x.f1] := by
  obtain ⟨_, _, rfl, rfl, rfl⟩ := h
  exact rfl
theorem k47_mk (w : World) (x : S47)  : k47.K w x [.int .u64 x.f0, .string x.f1] := ⟨[.int .u64 x.f0], [.string x.f1], rfl, rfl, rfl⟩
theorem k47_mkM (w : World) (base : Nat) (ok : Nat → Prop) (x : S47)  : k47.M w base ok x [.int .u64 x.f0, .string x.f1] := ⟨[.int .u64 x.f0], [.string x.f1], rfl, rfl, rfl⟩
def rd_T47 (xs : List S47) (i : Int) : S47 := xs.getD i.toNat z47
theorem at_T47 {w : World} {A : Option Addr} {n : Nat} {xs : List S47} (h : Kd.C k47 w A n xs) (i : Int) (h0 : 0 ≤ i) (h1 : i < n) : ∃ ad , A = some ad ∧ w.cell? (ad.add (i.toNat * 2)) = some (.int .u64 (rd_T47 xs i).f0) ∧ w.cell? ⟨(ad.add (i.toNat * 2)).block, (ad.add (i.toNat * 2)).off + 1, none⟩ = some (.string (rd_T47 xs i).f1) := by
  obtain ⟨ad, c, e, _, hK, hc0⟩ := Kd.C_get h z47 i h0 h1
  have hc : ∀ j u, c[j]? = some u → w.cell? (ad.add (i.toNat * 2 + j)) = some u := hc0
  obtain rfl := k47_open hK
  exact ⟨ad, e, hc 0 _ rfl, by rw [← add_field _ _ 1 (by omega)]; exact hc 1 _ rfl⟩

end Go.Proofs.YtmoopdhnnpjcfaaDoor.PCo
namespace Go.Proofs.YtmoopdhnnpjcfaaDoor.PCo
open Go.RowKit Go.Proofs.YtmoopdhnnpjcfaaDoorW.PrintWords Go.Proofs.YtmoopdhnnpjcfaaDoorW.PrintLast Go.Proofs.YtmoopdhnnpjcfaaDoorW.PrintMore
attribute [local go_sem] max2_int min2_int max_two min_two max_three min_three max_four min_four   -- for this text's walks alone
set_option linter.unusedVariables false
set_option linter.unusedSimpArgs false

theorem eqA47 (d : Nat) (w : World) (x0 y0 : Int) (x1 y1 : ByteArray) :
    (Op.equalIn (d + 2) 47 (.agg #[.int .u64 x0, .string x1]) (.agg #[.int .u64 y0, .string y1])).run Tryd.prog w = .ok (x0 == y0 && (x1.toList == y1.toList)) w := by
  refine eqA_of Tryd.underlying47 (by kernel_rfl) ?_
  refine eqf_cons (by rfl) (by go_simp; rfl) (by go_simp; rfl) (by go_simp) ?_
  exact eqf_last (by rfl) (by go_simp; rfl) (by go_simp; rfl) (by go_simp)
end Go.Proofs.YtmoopdhnnpjcfaaDoor.PCo
namespace Go.Proofs.YtmoopdhnnpjcfaaDoor.PCo
open Go.RowKit Go.Proofs.YtmoopdhnnpjcfaaDoorW.PrintWords Go.Proofs.YtmoopdhnnpjcfaaDoorW.PrintLast Go.Proofs.YtmoopdhnnpjcfaaDoorW.PrintMore
attribute [local go_sem] max2_int min2_int max_two min_two max_three min_three max_four min_four   -- for this text's walks alone
set_option linter.unusedVariables false
set_option linter.unusedSimpArgs false

/-! ### deckleref04_UTF8: function 87 -/
mutual
def deckleref04_UTF8.l0 : Nat → ByteArray → Int → Option (Bool)
  | 0, _, _ => none
  | k + 1, x0, x3 => if x3 < (x0.size : Int) then (if 0 ≤ x3 then (if (wrap64 (bt x0 x3)) < 128 then (deckleref04_UTF8.l0 k x0 (wrap64 (x3 + 1))) else (if (wrap64 (bt x0 x3)) ≥ 194 then (deckleref04_UTF8.j1 k x0 x3 (wrap64 (bt x0 x3)) (decide ((wrap64 (bt x0 x3)) < 224))) else (deckleref04_UTF8.j1 k x0 x3 (wrap64 (bt x0 x3)) false))) else (none)) else (some true)
def deckleref04_UTF8.j3 : Nat → ByteArray → Int → Int → Int → Int → Option (Bool)
  | 0, _, _, _, _, _ => none
  | k + 1, x0, x3, x4, x5, x6 => deckleref04_UTF8.l1 k x0 x3 x4 x5 x6 1
def deckleref04_UTF8.l1 : Nat → ByteArray → Int → Int → Int → Int → Int → Option (Bool)
  | 0, _, _, _, _, _, _ => none
  | k + 1, x0, x3, x4, x5, x6, x7 => if x7 ≤ x5 then (if (wrap64 (x3 + x7)) ≥ (x0.size : Int) then (some false) else (if 0 ≤ (wrap64 (x3 + x7)) then (if (wrap64 (x3 + x7)) < (x0.size : Int) then (if ((Int.tdiv (bt x0 (wrap64 (x3 + x7))) 64) % 256) = 2 then (deckleref04_UTF8.l1 k x0 x3 (wrap64 ((wrap64 (64 * x4)) + (wrap64 (Int.tmod (bt x0 (wrap64 (x3 + x7))) 64)))) x5 x6 (wrap64 (x7 + 1))) else (some false)) else (none)) else (none))) else (if x4 < x6 then (some false) else (if x4 > 1114111 then (some false) else (if x4 ≥ 55296 then (if x4 < 57344 then (some false) else (deckleref04_UTF8.l0 k x0 (wrap64 (x3 + (wrap64 (x5 + 1)))))) else (deckleref04_UTF8.l0 k x0 (wrap64 (x3 + (wrap64 (x5 + 1))))))))
def deckleref04_UTF8.j1 : Nat → ByteArray → Int → Int → Bool → Option (Bool)
  | 0, _, _, _, _ => none
  | k + 1, x0, x3, x4, x21 => if x21 = true then (deckleref04_UTF8.j3 k x0 x3 (Int.tmod x4 32) 1 128) else (if x4 ≥ 224 then (deckleref04_UTF8.j2 k x0 x3 x4 (decide (x4 < 240))) else (deckleref04_UTF8.j2 k x0 x3 x4 false))
def deckleref04_UTF8.j2 : Nat → ByteArray → Int → Int → Bool → Option (Bool)
  | 0, _, _, _, _ => none
  | k + 1, x0, x3, x4, x30 => if x30 = true then (deckleref04_UTF8.j3 k x0 x3 (Int.tmod x4 16) 2 2048) else (if x4 ≥ 240 then (if x4 < 245 then (deckleref04_UTF8.j3 k x0 x3 (Int.tmod x4 8) 3 65536) else (some false)) else (some false))
end
def deckleref04_UTF8.f (k : Nat) (a0 : ByteArray) : Option (Bool) := deckleref04_UTF8.l0 k a0 0
theorem deckleref04_UTF8.mono_l : ∀ k, (∀ y0 y1, LeO (deckleref04_UTF8.l0 k y0 y1) (deckleref04_UTF8.l0 (k + 1) y0 y1)) ∧ (∀ y0 y1 y2 y3 y4, LeO (deckleref04_UTF8.j3 k y0 y1 y2 y3 y4) (deckleref04_UTF8.j3 (k + 1) y0 y1 y2 y3 y4)) ∧ (∀ y0 y1 y2 y3 y4 y5, LeO (deckleref04_UTF8.l1 k y0 y1 y2 y3 y4 y5) (deckleref04_UTF8.l1 (k + 1) y0 y1 y2 y3 y4 y5)) ∧ (∀ y0 y1 y2 y3, LeO (deckleref04_UTF8.j1 k y0 y1 y2 y3) (deckleref04_UTF8.j1 (k + 1) y0 y1 y2 y3)) ∧ (∀ y0 y1 y2 y3, LeO (deckleref04_UTF8.j2 k y0 y1 y2 y3) (deckleref04_UTF8.j2 (k + 1) y0 y1 y2 y3))
  | 0 => ⟨fun _ _ r h => by simp [deckleref04_UTF8.l0] at h, fun _ _ _ _ _ r h => by simp [deckleref04_UTF8.j3] at h, fun _ _ _ _ _ _ r h => by simp [deckleref04_UTF8.l1] at h, fun _ _ _ _ r h => by simp [deckleref04_UTF8.j1] at h, fun _ _ _ _ r h => by simp [deckleref04_UTF8.j2] at h⟩
  | k + 1 => by
    obtain ⟨ih0, ih1, ih2, ih3, ih4⟩ := deckleref04_UTF8.mono_l k
    refine ⟨?_, ?_, ?_, ?_, ?_⟩
    · intro y0 y1
      unfold deckleref04_UTF8.l0
      repeat' first
      | (with_reducible exact ih0 _ _)
      | (with_reducible exact ih1 _ _ _ _ _)
      | (with_reducible exact ih2 _ _ _ _ _ _)
      | (with_reducible exact ih3 _ _ _ _)
      | (with_reducible exact ih4 _ _ _ _)
      | (with_reducible exact LeO.refl _)
      | (with_reducible exact LeO.none _)
      | (with_reducible refine LeO.ite ?_ ?_)
      | (with_reducible refine LeO.bind ?_ (fun _ => ?_))
      | exact ih0 _ _
      | exact ih1 _ _ _ _ _
      | exact ih2 _ _ _ _ _ _
      | exact ih3 _ _ _ _
      | exact ih4 _ _ _ _
      | exact LeO.none _
      | refine LeO.ite ?_ ?_
      | refine LeO.bind ?_ (fun _ => ?_)
    · intro y0 y1 y2 y3 y4
      unfold deckleref04_UTF8.j3
      repeat' first
      | (with_reducible exact ih0 _ _)
      | (with_reducible exact ih1 _ _ _ _ _)
      | (with_reducible exact ih2 _ _ _ _ _ _)
      | (with_reducible exact ih3 _ _ _ _)
      | (with_reducible exact ih4 _ _ _ _)
      | (with_reducible exact LeO.refl _)
      | (with_reducible exact LeO.none _)
      | (with_reducible refine LeO.ite ?_ ?_)
      | (with_reducible refine LeO.bind ?_ (fun _ => ?_))
      | exact ih0 _ _
      | exact ih1 _ _ _ _ _
      | exact ih2 _ _ _ _ _ _
      | exact ih3 _ _ _ _
      | exact ih4 _ _ _ _
      | exact LeO.none _
      | refine LeO.ite ?_ ?_
      | refine LeO.bind ?_ (fun _ => ?_)
    · intro y0 y1 y2 y3 y4 y5
      unfold deckleref04_UTF8.l1
      repeat' first
      | (with_reducible exact ih0 _ _)
      | (with_reducible exact ih1 _ _ _ _ _)
      | (with_reducible exact ih2 _ _ _ _ _ _)
      | (with_reducible exact ih3 _ _ _ _)
      | (with_reducible exact ih4 _ _ _ _)
      | (with_reducible exact LeO.refl _)
      | (with_reducible exact LeO.none _)
      | (with_reducible refine LeO.ite ?_ ?_)
      | (with_reducible refine LeO.bind ?_ (fun _ => ?_))
      | exact ih0 _ _
      | exact ih1 _ _ _ _ _
      | exact ih2 _ _ _ _ _ _
      | exact ih3 _ _ _ _
      | exact ih4 _ _ _ _
      | exact LeO.none _
      | refine LeO.ite ?_ ?_
      | refine LeO.bind ?_ (fun _ => ?_)
    · intro y0 y1 y2 y3
      unfold deckleref04_UTF8.j1
      repeat' first
      | (with_reducible exact ih0 _ _)
      | (with_reducible exact ih1 _ _ _ _ _)
      | (with_reducible exact ih2 _ _ _ _ _ _)
      | (with_reducible exact ih3 _ _ _ _)
      | (with_reducible exact ih4 _ _ _ _)
      | (with_reducible exact LeO.refl _)
      | (with_reducible exact LeO.none _)
      | (with_reducible refine LeO.ite ?_ ?_)
      | (with_reducible refine LeO.bind ?_ (fun _ => ?_))
      | exact ih0 _ _
      | exact ih1 _ _ _ _ _
      | exact ih2 _ _ _ _ _ _
      | exact ih3 _ _ _ _
      | exact ih4 _ _ _ _
      | exact LeO.none _
      | refine LeO.ite ?_ ?_
      | refine LeO.bind ?_ (fun _ => ?_)
    · intro y0 y1 y2 y3
      unfold deckleref04_UTF8.j2
      repeat' first
      | (with_reducible exact ih0 _ _)
      | (with_reducible exact ih1 _ _ _ _ _)
      | (with_reducible exact ih2 _ _ _ _ _ _)
      | (with_reducible exact ih3 _ _ _ _)
      | (with_reducible exact ih4 _ _ _ _)
      | (with_reducible exact LeO.refl _)
      | (with_reducible exact LeO.none _)
      | (with_reducible refine LeO.ite ?_ ?_)
      | (with_reducible refine LeO.bind ?_ (fun _ => ?_))
      | exact ih0 _ _
      | exact ih1 _ _ _ _ _
      | exact ih2 _ _ _ _ _ _
      | exact ih3 _ _ _ _
      | exact ih4 _ _ _ _
      | exact LeO.none _
      | refine LeO.ite ?_ ?_
      | refine LeO.bind ?_ (fun _ => ?_)
theorem deckleref04_UTF8.mono : ∀ a0 k, LeO (deckleref04_UTF8.f k a0) (deckleref04_UTF8.f (k + 1) a0) := by
  intro a0 k
  obtain ⟨ih0, ih1, ih2, ih3, ih4⟩ := deckleref04_UTF8.mono_l k
  unfold deckleref04_UTF8.f
  repeat' first
      | (with_reducible exact ih0 _ _)
      | (with_reducible exact ih1 _ _ _ _ _)
      | (with_reducible exact ih2 _ _ _ _ _ _)
      | (with_reducible exact ih3 _ _ _ _)
      | (with_reducible exact ih4 _ _ _ _)
      | (with_reducible exact LeO.refl _)
      | (with_reducible exact LeO.none _)
      | (with_reducible refine LeO.ite ?_ ?_)
      | (with_reducible refine LeO.bind ?_ (fun _ => ?_))
      | exact ih0 _ _
      | exact ih1 _ _ _ _ _
      | exact ih2 _ _ _ _ _ _
      | exact ih3 _ _ _ _
      | exact ih4 _ _ _ _
      | exact LeO.none _
      | refine LeO.ite ?_ ?_
      | refine LeO.bind ?_ (fun _ => ?_)
set_option maxHeartbeats 8000000 in
set_option maxRecDepth 100000 in
theorem deckleref04_UTF8.calls (k : Nat) (a0 : ByteArray) (r : Bool) (w : World) (h : deckleref04_UTF8.f k a0 = some r) :
    Calls Tryd.prog 87 #[.string a0] w fun e w' => e = .returned (.bool r) ∧ Drawn0 w w' := by
  have H : (deckleref04_UTF8.l0 k a0 0) = some r := h
  clear h
  have H' := Aside0.mk H
  clear H
  go_enter Tryd.func87, Tryd.ntmps87
  go_wp2
  go_loopg [3] k (fun kq v3 w' => ∃ (x3_1 : Int), v3 = .int .i64 x3_1 ∧ Aside0 (deckleref04_UTF8.l0 kq a0 x3_1 = some r) ∧ Aside0 (kq ≤ k) ∧ Drawn0 w w')
  case atStart => exact ⟨(0), (by first | rfl | (simp; done) | (simp [*]; done)), H', ⟨Nat.le_refl _⟩, by repeat (first | exact Drawn0.refl _ | apply Drawn0.step)⟩
  case round =>
    clear H'
    obtain ⟨x3_1, rfl, HA, HK1, ⟨m1, rfl⟩⟩ := hrel
    cases gk with
    | zero => exact absurd HA.out (by simp [deckleref04_UTF8.l0])
    | succ k1 =>
      have H := HA.out
      clear HA
      simp only [deckleref04_UTF8.l0] at H
      by_cases c2 : x3_1 < (a0.size : Int)
      · rw [if_pos c2] at H
        have c2b0 : decide (x3_1 < (a0.size : Int)) = true := decide_eq_true c2
        clear c2
        by_cases c3 : 0 ≤ x3_1
        · rw [if_pos c3] at H
          have c3b0 : decide (0 ≤ x3_1) = true := decide_eq_true c3
          clear c3
          have HC5 := Aside0.mk H
          clear H
          have p4 : 0 ≤ (x3_1 : Int) := of_decide_eq_true (by first | (with_reducible assumption) | assumption)
          have q4 : x3_1 < (a0.size : Int) := of_decide_eq_true (by first | (with_reducible assumption) | assumption)
          have hx4 := bt_at a0 x3_1
          replace p4 := eq_true p4
          replace q4 := eq_true q4
          go_upto_block 2 with (fail)
          go_cut [3, 4, 5, 6] (fun v3 v4 v5 v6 wc => ∃ (kq : Nat) (x3_4 : Int) (x4_4 : Int) (x5_4 : Int) (x6_4 : Int), v3 = .int .i64 x3_4 ∧ v4 = .int .i64 x4_4 ∧ v5 = .int .i64 x5_4 ∧ v6 = .int .i64 x6_4 ∧ Aside0 (deckleref04_UTF8.j3 kq a0 x3_4 x4_4 x5_4 x6_4 = some r) ∧ Aside0 (kq ≤ k1) ∧ Drawn0 w wc)
          case first =>
            have H := HC5.out
            clear HC5
            by_cases c6 : (wrap64 (bt a0 x3_1)) < 128
            · rw [if_pos c6] at H
              have c6b0 : decide ((wrap64 (bt a0 x3_1)) < 128) = true := decide_eq_true c6
              clear c6
              (first | rw [c6b0] | (simp only [i64_w, i32_w]; rw [c6b0]) | skip)
              have H' := Aside0.mk H
              clear H
              go_wp2
              go_roundg k1
              case measure => have := HK1.out; omega
              case rel => exact ⟨(wrap64 (x3_1 + 1)), (by first | rfl | (simp; done) | (simp [*]; done)), H', ⟨by have := HK1.out; omega⟩, by repeat (first | exact Drawn0.refl _ | apply Drawn0.step)⟩
            · rw [if_neg c6] at H
              have c6b0 : decide ((wrap64 (bt a0 x3_1)) < 128) = false := decide_eq_false c6
              clear c6
              (first | rw [c6b0] | (simp only [i64_w, i32_w]; rw [c6b0]) | skip)
              have HC7 := Aside0.mk H
              clear H
              go_upto_region 9 with (fail)
              go_cut [21] (fun v21 wc => ∃ (kq : Nat) (x21_6 : Bool), v21 = .bool x21_6 ∧ Aside0 (deckleref04_UTF8.j1 kq a0 x3_1 (wrap64 (bt a0 x3_1)) x21_6 = some r) ∧ Aside0 (kq ≤ k1) ∧ Drawn0 w wc)
              case first =>
                have H := HC7.out
                clear HC7
                by_cases c8 : (wrap64 (bt a0 x3_1)) ≥ 194
                · rw [if_pos c8] at H
                  have c8b0 : decide (194 ≤ (wrap64 (bt a0 x3_1))) = true := decide_eq_true c8
                  clear c8
                  (first | rw [c8b0] | (simp only [i64_w, i32_w]; rw [c8b0]) | skip)
                  have H' := Aside0.mk H
                  clear H
                  go_wp2
                  go_meet
                  case rel => exact ⟨_, (decide ((wrap64 (bt a0 x3_1)) < 224)), (by first | rfl | (simp; done) | (simp [*]; done)), H', ⟨by have := HK1.out; first | omega | exact Nat.le_refl _⟩, by repeat (first | exact Drawn0.refl _ | apply Drawn0.step)⟩
                · rw [if_neg c8] at H
                  have c8b0 : decide (194 ≤ (wrap64 (bt a0 x3_1))) = false := decide_eq_false c8
                  clear c8
                  (first | rw [c8b0] | (simp only [i64_w, i32_w]; rw [c8b0]) | skip)
                  have H' := Aside0.mk H
                  clear H
                  go_wp2
                  go_meet
                  case rel => exact ⟨_, (false), (by first | rfl | (simp; done) | (simp [*]; done)), H', ⟨by have := HK1.out; first | omega | exact Nat.le_refl _⟩, by repeat (first | exact Drawn0.refl _ | apply Drawn0.step)⟩
              case rest =>
                clear HC7
                try clear c2
                try clear c2b0
                try clear p2
                try clear c3
                try clear c3b0
                try clear p4
                try clear q4
                try clear hx4
                try clear c6
                try clear c6b0
                try clear p6
                try clear c8
                try clear c8b0
                try clear p4
                try clear q4
                obtain ⟨kq, x21_6, rfl, HA, HJ6, ⟨mc6, rfl⟩⟩ := hcut
                cases kq with
                | zero => exact absurd HA.out (by simp [deckleref04_UTF8.j1])
                | succ kj6 =>
                  have H := HA.out
                  clear HA
                  simp only [deckleref04_UTF8.j1] at H
                  by_cases c9 : x21_6 = true
                  · subst c9
                    have H1 : (deckleref04_UTF8.j3 kj6 a0 x3_1 (Int.tmod (wrap64 (bt a0 x3_1)) 32) 1 128) = some r := by rw [if_pos rfl] at H; exact H
                    clear H
                    have H := H1
                    clear H1
                    have H' := Aside0.mk H
                    clear H
                    go_wp2
                    go_meet
                    case rel => exact ⟨_, (x3_1), (Int.tmod (wrap64 (bt a0 x3_1)) 32), (1), (128), (by first | rfl | (simp; done) | (simp [*]; done)), (by first | rfl | (simp; done) | (simp [*]; done)), (by first | rfl | (simp; done) | (simp [*]; done)), (by first | rfl | (simp; done) | (simp [*]; done)), H', ⟨by have := HK1.out; have := HJ6.out; first | omega | exact Nat.le_refl _⟩, by repeat (first | exact Drawn0.refl _ | apply Drawn0.step)⟩
                  · replace c9 := Bool.eq_false_iff.mpr c9
                    subst c9
                    have H1 : (if (wrap64 (bt a0 x3_1)) ≥ 224 then (deckleref04_UTF8.j2 kj6 a0 x3_1 (wrap64 (bt a0 x3_1)) (decide ((wrap64 (bt a0 x3_1)) < 240))) else (deckleref04_UTF8.j2 kj6 a0 x3_1 (wrap64 (bt a0 x3_1)) false)) = some r := by rw [if_neg (show ¬ (false = true) by decide)] at H; exact H
                    clear H
                    have H := H1
                    clear H1
                    have HC10 := Aside0.mk H
                    clear H
                    go_upto_region 13 with (fail)
                    go_cut [30] (fun v30 wc => ∃ (kq : Nat) (x30_9 : Bool), v30 = .bool x30_9 ∧ Aside0 (deckleref04_UTF8.j2 kq a0 x3_1 (wrap64 (bt a0 x3_1)) x30_9 = some r) ∧ Aside0 (kq ≤ kj6) ∧ Drawn0 w wc)
                    case first =>
                      have H := HC10.out
                      clear HC10
                      by_cases c11 : (wrap64 (bt a0 x3_1)) ≥ 224
                      · rw [if_pos c11] at H
                        have c11b0 : decide (224 ≤ (wrap64 (bt a0 x3_1))) = true := decide_eq_true c11
                        clear c11
                        (first | rw [c11b0] | (simp only [i64_w, i32_w]; rw [c11b0]) | skip)
                        have H' := Aside0.mk H
                        clear H
                        go_wp2
                        go_meet
                        case rel => exact ⟨_, (decide ((wrap64 (bt a0 x3_1)) < 240)), (by first | rfl | (simp; done) | (simp [*]; done)), H', ⟨by have := HK1.out; have := HJ6.out; first | omega | exact Nat.le_refl _⟩, by repeat (first | exact Drawn0.refl _ | apply Drawn0.step)⟩
                      · rw [if_neg c11] at H
                        have c11b0 : decide (224 ≤ (wrap64 (bt a0 x3_1))) = false := decide_eq_false c11
                        clear c11
                        (first | rw [c11b0] | (simp only [i64_w, i32_w]; rw [c11b0]) | skip)
                        have H' := Aside0.mk H
                        clear H
                        go_wp2
                        go_meet
                        case rel => exact ⟨_, (false), (by first | rfl | (simp; done) | (simp [*]; done)), H', ⟨by have := HK1.out; have := HJ6.out; first | omega | exact Nat.le_refl _⟩, by repeat (first | exact Drawn0.refl _ | apply Drawn0.step)⟩
                    case rest =>
                      clear HC10
                      try clear c1
                      try clear c2
                      try clear c2b0
                      try clear p2
                      try clear c3
                      try clear c3b0
                      try clear p4
                      try clear q4
                      try clear hx4
                      try clear c6
                      try clear c6b0
                      try clear p6
                      try clear c8
                      try clear c8b0
                      try clear c9
                      try clear c11
                      try clear c11b0
                      try clear p2
                      try clear p4
                      try clear p6
                      try clear q4
                      obtain ⟨kq, x30_9, rfl, HA, HJ9, ⟨mc9, rfl⟩⟩ := hcut
                      cases kq with
                      | zero => exact absurd HA.out (by simp [deckleref04_UTF8.j2])
                      | succ kj9 =>
                        have H := HA.out
                        clear HA
                        simp only [deckleref04_UTF8.j2] at H
                        by_cases c12 : x30_9 = true
                        · subst c12
                          have H1 : (deckleref04_UTF8.j3 kj9 a0 x3_1 (Int.tmod (wrap64 (bt a0 x3_1)) 16) 2 2048) = some r := by rw [if_pos rfl] at H; exact H
                          clear H
                          have H := H1
                          clear H1
                          have H' := Aside0.mk H
                          clear H
                          go_wp2
                          go_meet
                          case rel => exact ⟨_, (x3_1), (Int.tmod (wrap64 (bt a0 x3_1)) 16), (2), (2048), (by first | rfl | (simp; done) | (simp [*]; done)), (by first | rfl | (simp; done) | (simp [*]; done)), (by first | rfl | (simp; done) | (simp [*]; done)), (by first | rfl | (simp; done) | (simp [*]; done)), H', ⟨by have := HK1.out; have := HJ6.out; have := HJ9.out; first | omega | exact Nat.le_refl _⟩, by repeat (first | exact Drawn0.refl _ | apply Drawn0.step)⟩
                        · replace c12 := Bool.eq_false_iff.mpr c12
                          subst c12
                          have H1 : (if (wrap64 (bt a0 x3_1)) ≥ 240 then (if (wrap64 (bt a0 x3_1)) < 245 then (deckleref04_UTF8.j3 kj9 a0 x3_1 (Int.tmod (wrap64 (bt a0 x3_1)) 8) 3 65536) else (some false)) else (some false)) = some r := by rw [if_neg (show ¬ (false = true) by decide)] at H; exact H
                          clear H
                          have H := H1
                          clear H1
                          by_cases c13 : (wrap64 (bt a0 x3_1)) ≥ 240
                          · rw [if_pos c13] at H
                            have c13b0 : decide (240 ≤ (wrap64 (bt a0 x3_1))) = true := decide_eq_true c13
                            clear c13
                            by_cases c14 : (wrap64 (bt a0 x3_1)) < 245
                            · rw [if_pos c14] at H
                              have c14b0 : decide ((wrap64 (bt a0 x3_1)) < 245) = true := decide_eq_true c14
                              clear c14
                              have H' := Aside0.mk H
                              clear H
                              go_wp2
                              go_meet
                              case rel => exact ⟨_, (x3_1), (Int.tmod (wrap64 (bt a0 x3_1)) 8), (3), (65536), (by first | rfl | (simp; done) | (simp [*]; done)), (by first | rfl | (simp; done) | (simp [*]; done)), (by first | rfl | (simp; done) | (simp [*]; done)), (by first | rfl | (simp; done) | (simp [*]; done)), H', ⟨by have := HK1.out; have := HJ6.out; have := HJ9.out; first | omega | exact Nat.le_refl _⟩, by repeat (first | exact Drawn0.refl _ | apply Drawn0.step)⟩
                            · rw [if_neg c14] at H
                              have c14b0 : decide ((wrap64 (bt a0 x3_1)) < 245) = false := decide_eq_false c14
                              clear c14
                              obtain rfl := Option.some.inj H
                              go_wp2
                              go_ret
                              exact ⟨by first | rfl | (simp; done) | (simp [*]; done), by repeat (first | exact Drawn0.refl _ | apply Drawn0.step)⟩
                          · rw [if_neg c13] at H
                            have c13b0 : decide (240 ≤ (wrap64 (bt a0 x3_1))) = false := decide_eq_false c13
                            clear c13
                            obtain rfl := Option.some.inj H
                            go_wp2
                            go_ret
                            exact ⟨by first | rfl | (simp; done) | (simp [*]; done), by repeat (first | exact Drawn0.refl _ | apply Drawn0.step)⟩
          case rest =>
            clear HC5
            try clear c1
            try clear c2
            try clear c2b0
            try clear p2
            try clear c3
            try clear c3b0
            try clear p4
            try clear q4
            try clear hx4
            try clear c6
            try clear c6b0
            try clear p6
            try clear c8
            try clear c8b0
            try clear c9
            try clear c11
            try clear c11b0
            try clear c12
            try clear c13
            try clear c13b0
            try clear c14
            try clear c14b0
            try clear p2
            try clear p4
            try clear p6
            try clear q4
            obtain ⟨kq, x3_4, x4_4, x5_4, x6_4, rfl, rfl, rfl, rfl, HA, HJ4, ⟨mc4, rfl⟩⟩ := hcut
            cases kq with
            | zero => exact absurd HA.out (by simp [deckleref04_UTF8.j3])
            | succ kj4 =>
              have H := HA.out
              clear HA
              simp only [deckleref04_UTF8.j3] at H
              have H' := Aside0.mk H
              clear H
              go_wp2
              go_loopg [4, 7] kj4 (fun kq v4 v7 w' => ∃ (x4_3 : Int) (x7_3 : Int), v4 = .int .i64 x4_3 ∧ v7 = .int .i64 x7_3 ∧ Aside0 (deckleref04_UTF8.l1 kq a0 x3_4 x4_3 x5_4 x6_4 x7_3 = some r) ∧ Aside0 (kq ≤ kj4) ∧ Drawn0 w w')
              case atStart => exact ⟨(x4_4), (1), (by first | rfl | (simp; done) | (simp [*]; done)), (by first | rfl | (simp; done) | (simp [*]; done)), H', ⟨Nat.le_refl _⟩, by repeat (first | exact Drawn0.refl _ | apply Drawn0.step)⟩
              case round =>
                clear H'
                try clear c1
                try clear c2
                try clear c2b0
                try clear p2
                try clear c3
                try clear c3b0
                try clear c4
                try clear p4
                try clear q4
                try clear hx4
                try clear c6
                try clear c6b0
                try clear p6
                try clear c8
                try clear c8b0
                try clear c9
                try clear c11
                try clear c11b0
                try clear c12
                try clear c13
                try clear c13b0
                try clear c14
                try clear c14b0
                try clear p2
                try clear p4
                try clear p6
                try clear q4
                obtain ⟨x4_3, x7_3, rfl, rfl, HA, HK3, ⟨m3, rfl⟩⟩ := hrel
                cases gk with
                | zero => exact absurd HA.out (by simp [deckleref04_UTF8.l1])
                | succ k3 =>
                  have H := HA.out
                  clear HA
                  simp only [deckleref04_UTF8.l1] at H
                  by_cases c15 : x7_3 ≤ x5_4
                  · rw [if_pos c15] at H
                    have c15b0 : decide (x7_3 ≤ x5_4) = true := decide_eq_true c15
                    clear c15
                    by_cases c16 : (wrap64 (x3_4 + x7_3)) ≥ (a0.size : Int)
                    · rw [if_pos c16] at H
                      have c16b0 : decide ((a0.size : Int) ≤ (wrap64 (x3_4 + x7_3))) = true := decide_eq_true c16
                      clear c16
                      obtain rfl := Option.some.inj H
                      go_wp2
                      go_ret
                      exact ⟨by first | rfl | (simp; done) | (simp [*]; done), by repeat (first | exact Drawn0.refl _ | apply Drawn0.step)⟩
                    · rw [if_neg c16] at H
                      have c16b0 : decide ((a0.size : Int) ≤ (wrap64 (x3_4 + x7_3))) = false := decide_eq_false c16
                      clear c16
                      obtain ⟨ji17, hji17⟩ : ∃ j_ : Int, (wrap64 (x3_4 + x7_3)) = j_ := ⟨_, rfl⟩
                      replace H : (if 0 ≤ (ji17) then (if (ji17) < (a0.size : Int) then (if ((Int.tdiv (bt a0 (ji17)) 64) % 256) = 2 then (deckleref04_UTF8.l1 k3 a0 x3_4 (wrap64 ((wrap64 (64 * x4_3)) + (wrap64 (Int.tmod (bt a0 (ji17)) 64)))) x5_4 x6_4 (wrap64 (x7_3 + 1))) else (some false)) else (none)) else (none)) = some r := by first | (rw [hji17] at H; exact H) | (simp only [hji17] at H ⊢; exact H)
                      (try rw [hji17] at c16b0)
                      have hji17w : (IntKind.i64.wrap (x3_4 + x7_3)) = ji17 := (i64_w _).trans hji17
                      by_cases c18 : 0 ≤ (ji17)
                      · rw [if_pos c18] at H
                        have c18b0 : decide (0 ≤ (ji17)) = true := decide_eq_true c18
                        clear c18
                        by_cases c19 : (ji17) < (a0.size : Int)
                        · rw [if_pos c19] at H
                          have c19b0 : decide ((ji17) < (a0.size : Int)) = true := decide_eq_true c19
                          clear c19
                          by_cases c21 : ((Int.tdiv (bt a0 (ji17)) 64) % 256) = 2
                          · rw [if_pos c21] at H
                            have c21b0 : (((Int.tdiv (bt a0 (ji17)) 64) % 256) == 2) = true := beq_iff_eq.mpr c21
                            have c21b1 : (((Int.tdiv (bt a0 (ji17)) 64) % 256) != 2) = false := bne_eq_false_iff_eq.mpr c21
                            clear c21
                            have H' := Aside0.mk H
                            clear H
                            have p20 : 0 ≤ ((ji17) : Int) := of_decide_eq_true (by first | (with_reducible assumption) | assumption)
                            have q20 : (ji17) < (a0.size : Int) := of_decide_eq_true (by first | (with_reducible assumption) | assumption)
                            have hx20 := bt_at a0 (ji17)
                            replace p20 := eq_true p20
                            replace q20 := eq_true q20
                            have p22 : 0 ≤ ((ji17) : Int) := of_decide_eq_true (by first | (with_reducible assumption) | assumption)
                            have q22 : (ji17) < (a0.size : Int) := of_decide_eq_true (by first | (with_reducible assumption) | assumption)
                            have hx22 := bt_at a0 (ji17)
                            replace p22 := eq_true p22
                            replace q22 := eq_true q22
                            go_wp2
                            go_roundg k3
                            case measure => have := HK1.out; have := HJ4.out; have := HK3.out; omega
                            case rel => exact ⟨(wrap64 ((wrap64 (64 * x4_3)) + (wrap64 (Int.tmod (bt a0 (ji17)) 64)))), (wrap64 (x7_3 + 1)), (by first | rfl | (simp; done) | (simp only [← hji17] <;> (first | rfl | simp)) | (simp [*]; done)), (by first | rfl | (simp; done) | (simp [*]; done)), H', ⟨by have := HK1.out; have := HJ4.out; have := HK3.out; omega⟩, by repeat (first | exact Drawn0.refl _ | apply Drawn0.step)⟩
                          · rw [if_neg c21] at H
                            have c21b0 : (((Int.tdiv (bt a0 (ji17)) 64) % 256) == 2) = false := beq_eq_false_iff_ne.mpr c21
                            have c21b1 : (((Int.tdiv (bt a0 (ji17)) 64) % 256) != 2) = true := bne_iff_ne.mpr c21
                            obtain rfl := Option.some.inj H
                            have p20 : 0 ≤ ((ji17) : Int) := of_decide_eq_true (by first | (with_reducible assumption) | assumption)
                            have q20 : (ji17) < (a0.size : Int) := of_decide_eq_true (by first | (with_reducible assumption) | assumption)
                            have hx20 := bt_at a0 (ji17)
                            replace p20 := eq_true p20
                            replace q20 := eq_true q20
                            go_wp2
                            go_ret
                            exact ⟨by first | rfl | (simp; done) | (simp only [← hji17] <;> (first | rfl | simp)) | (simp [*]; done), by repeat (first | exact Drawn0.refl _ | apply Drawn0.step)⟩
                        · rw [if_neg c19] at H
                          exact absurd H (by simp)
                      · rw [if_neg c18] at H
                        exact absurd H (by simp)
                  · rw [if_neg c15] at H
                    have c15b0 : decide (x7_3 ≤ x5_4) = false := decide_eq_false c15
                    clear c15
                    by_cases c23 : x4_3 < x6_4
                    · rw [if_pos c23] at H
                      have c23b0 : decide (x4_3 < x6_4) = true := decide_eq_true c23
                      clear c23
                      obtain rfl := Option.some.inj H
                      go_wp2
                      go_ret
                      exact ⟨by first | rfl | (simp; done) | (simp [*]; done), by repeat (first | exact Drawn0.refl _ | apply Drawn0.step)⟩
                    · rw [if_neg c23] at H
                      have c23b0 : decide (x4_3 < x6_4) = false := decide_eq_false c23
                      clear c23
                      by_cases c24 : x4_3 > 1114111
                      · rw [if_pos c24] at H
                        have c24b0 : decide (1114111 < x4_3) = true := decide_eq_true c24
                        clear c24
                        obtain rfl := Option.some.inj H
                        go_wp2
                        go_ret
                        exact ⟨by first | rfl | (simp; done) | (simp [*]; done), by repeat (first | exact Drawn0.refl _ | apply Drawn0.step)⟩
                      · rw [if_neg c24] at H
                        have c24b0 : decide (1114111 < x4_3) = false := decide_eq_false c24
                        clear c24
                        by_cases c25 : x4_3 ≥ 55296
                        · rw [if_pos c25] at H
                          have c25b0 : decide (55296 ≤ x4_3) = true := decide_eq_true c25
                          clear c25
                          by_cases c26 : x4_3 < 57344
                          · rw [if_pos c26] at H
                            have c26b0 : decide (x4_3 < 57344) = true := decide_eq_true c26
                            clear c26
                            obtain rfl := Option.some.inj H
                            go_wp2
                            go_ret
                            exact ⟨by first | rfl | (simp; done) | (simp [*]; done), by repeat (first | exact Drawn0.refl _ | apply Drawn0.step)⟩
                          · rw [if_neg c26] at H
                            have c26b0 : decide (x4_3 < 57344) = false := decide_eq_false c26
                            clear c26
                            have H' := Aside0.mk H
                            clear H
                            go_wp2
                            go_roundg k3
                            case measure => have := HK1.out; have := HJ4.out; have := HK3.out; omega
                            case rel => exact ⟨(wrap64 (x3_4 + (wrap64 (x5_4 + 1)))), (by first | rfl | (simp; done) | (simp [*]; done)), H', ⟨by have := HK1.out; have := HJ4.out; have := HK3.out; omega⟩, by repeat (first | exact Drawn0.refl _ | apply Drawn0.step)⟩
                        · rw [if_neg c25] at H
                          have c25b0 : decide (55296 ≤ x4_3) = false := decide_eq_false c25
                          clear c25
                          have H' := Aside0.mk H
                          clear H
                          go_wp2
                          go_roundg k3
                          case measure => have := HK1.out; have := HJ4.out; have := HK3.out; omega
                          case rel => exact ⟨(wrap64 (x3_4 + (wrap64 (x5_4 + 1)))), (by first | rfl | (simp; done) | (simp [*]; done)), H', ⟨by have := HK1.out; have := HJ4.out; have := HK3.out; omega⟩, by repeat (first | exact Drawn0.refl _ | apply Drawn0.step)⟩
        · rw [if_neg c3] at H
          exact absurd H (by simp)
      · rw [if_neg c2] at H
        have c2b0 : decide (x3_1 < (a0.size : Int)) = false := decide_eq_false c2
        clear c2
        obtain rfl := Option.some.inj H
        go_wp2
        go_ret
        exact ⟨by first | rfl | (simp; done) | (simp [*]; done), by repeat (first | exact Drawn0.refl _ | apply Drawn0.step)⟩

end Go.Proofs.YtmoopdhnnpjcfaaDoor.PCo
namespace Go.Proofs.YtmoopdhnnpjcfaaDoor.PCo
open Go.RowKit Go.Proofs.YtmoopdhnnpjcfaaDoorW.PrintWords Go.Proofs.YtmoopdhnnpjcfaaDoorW.PrintLast Go.Proofs.YtmoopdhnnpjcfaaDoorW.PrintMore
attribute [local go_sem] max2_int min2_int max_two min_two max_three min_three max_four min_four   -- for this text's walks alone
set_option linter.unusedVariables false
set_option linter.unusedSimpArgs false

/-! ### deckleref04_Check: function 47 -/
mutual
def deckleref04_Check.j0 : Nat → Int → Bool → Int → ByteArray → Option (Int)
  | 0, _, _, _, _ => none
  | k + 1, x0, x11, x102000, x102001 => if x11 = true then (some 10) else (if x0 = 3 then (deckleref04_Check.j1 k x0 true x102000 x102001) else (deckleref04_Check.j1 k x0 (x0 == 4) x102000 x102001))
def deckleref04_Check.j1 : Nat → Int → Bool → Int → ByteArray → Option (Int)
  | 0, _, _, _, _ => none
  | k + 1, x0, x5, x102000, x102001 => if x5 = true then (if x102000 = 0 then (if x0 = 2 then (if x102000 > 1 then (deckleref04_Check.j2 k true x102000 x102001) else (if x0 = 4 then ((deckleref04_UTF8.f k x102001).bind fun t102 => (deckleref04_Check.j2 k (!t102) x102000 x102001)) else (deckleref04_Check.j2 k false x102000 x102001))) else (if x0 = 4 then ((deckleref04_UTF8.f k x102001).bind fun t103 => (deckleref04_Check.j2 k (!t103) x102000 x102001)) else (deckleref04_Check.j2 k false x102000 x102001))) else (deckleref04_Check.j2 k true x102000 x102001)) else (if x102001.toList = ([] : List UInt8) then (if x0 = 2 then (if x102000 > 1 then (deckleref04_Check.j2 k true x102000 x102001) else (if x0 = 4 then ((deckleref04_UTF8.f k x102001).bind fun t104 => (deckleref04_Check.j2 k (!t104) x102000 x102001)) else (deckleref04_Check.j2 k false x102000 x102001))) else (if x0 = 4 then ((deckleref04_UTF8.f k x102001).bind fun t105 => (deckleref04_Check.j2 k (!t105) x102000 x102001)) else (deckleref04_Check.j2 k false x102000 x102001))) else (deckleref04_Check.j2 k true x102000 x102001))
def deckleref04_Check.j2 : Nat → Bool → Int → ByteArray → Option (Int)
  | 0, _, _, _ => none
  | k + 1, x51, x102000, x102001 => if x51 = true then (some 11) else (if (x102001.size : Int) > 256 then (some 7) else (some 0))
end
def deckleref04_Check.f (k : Nat) (a0 : Int) (a1_0 : Int) (a1_1 : ByteArray) : Option (Int) := if a0 < 0 then (deckleref04_Check.j0 k a0 true a1_0 a1_1) else (deckleref04_Check.j0 k a0 (decide (a0 > 5)) a1_0 a1_1)
theorem deckleref04_Check.mono_l : ∀ k, (∀ y0 y1 y2 y3, LeO (deckleref04_Check.j0 k y0 y1 y2 y3) (deckleref04_Check.j0 (k + 1) y0 y1 y2 y3)) ∧ (∀ y0 y1 y2 y3, LeO (deckleref04_Check.j1 k y0 y1 y2 y3) (deckleref04_Check.j1 (k + 1) y0 y1 y2 y3)) ∧ (∀ y0 y1 y2, LeO (deckleref04_Check.j2 k y0 y1 y2) (deckleref04_Check.j2 (k + 1) y0 y1 y2))
  | 0 => ⟨fun _ _ _ _ r h => by simp [deckleref04_Check.j0] at h, fun _ _ _ _ r h => by simp [deckleref04_Check.j1] at h, fun _ _ _ r h => by simp [deckleref04_Check.j2] at h⟩
  | k + 1 => by
    obtain ⟨ih0, ih1, ih2⟩ := deckleref04_Check.mono_l k
    refine ⟨?_, ?_, ?_⟩
    · intro y0 y1 y2 y3
      unfold deckleref04_Check.j0
      repeat' first
      | (with_reducible exact ih0 _ _ _ _)
      | (with_reducible exact ih1 _ _ _ _)
      | (with_reducible exact ih2 _ _ _)
      | (with_reducible exact deckleref04_UTF8.mono _ _)
      | (with_reducible exact LeO.refl _)
      | (with_reducible exact LeO.none _)
      | (with_reducible refine LeO.ite ?_ ?_)
      | (with_reducible refine LeO.bind ?_ (fun _ => ?_))
      | exact ih0 _ _ _ _
      | exact ih1 _ _ _ _
      | exact ih2 _ _ _
      | exact deckleref04_UTF8.mono _ _
      | exact LeO.none _
      | refine LeO.ite ?_ ?_
      | refine LeO.bind ?_ (fun _ => ?_)
    · intro y0 y1 y2 y3
      unfold deckleref04_Check.j1
      repeat' first
      | (with_reducible exact ih0 _ _ _ _)
      | (with_reducible exact ih1 _ _ _ _)
      | (with_reducible exact ih2 _ _ _)
      | (with_reducible exact deckleref04_UTF8.mono _ _)
      | (with_reducible exact LeO.refl _)
      | (with_reducible exact LeO.none _)
      | (with_reducible refine LeO.ite ?_ ?_)
      | (with_reducible refine LeO.bind ?_ (fun _ => ?_))
      | exact ih0 _ _ _ _
      | exact ih1 _ _ _ _
      | exact ih2 _ _ _
      | exact deckleref04_UTF8.mono _ _
      | exact LeO.none _
      | refine LeO.ite ?_ ?_
      | refine LeO.bind ?_ (fun _ => ?_)
    · intro y0 y1 y2
      unfold deckleref04_Check.j2
      repeat' first
      | (with_reducible exact ih0 _ _ _ _)
      | (with_reducible exact ih1 _ _ _ _)
      | (with_reducible exact ih2 _ _ _)
      | (with_reducible exact deckleref04_UTF8.mono _ _)
      | (with_reducible exact LeO.refl _)
      | (with_reducible exact LeO.none _)
      | (with_reducible refine LeO.ite ?_ ?_)
      | (with_reducible refine LeO.bind ?_ (fun _ => ?_))
      | exact ih0 _ _ _ _
      | exact ih1 _ _ _ _
      | exact ih2 _ _ _
      | exact deckleref04_UTF8.mono _ _
      | exact LeO.none _
      | refine LeO.ite ?_ ?_
      | refine LeO.bind ?_ (fun _ => ?_)
theorem deckleref04_Check.mono : ∀ a0 a1 a2 k, LeO (deckleref04_Check.f k a0 a1 a2) (deckleref04_Check.f (k + 1) a0 a1 a2) := by
  intro a0 a1 a2 k
  obtain ⟨ih0, ih1, ih2⟩ := deckleref04_Check.mono_l k
  unfold deckleref04_Check.f
  repeat' first
      | (with_reducible exact ih0 _ _ _ _)
      | (with_reducible exact ih1 _ _ _ _)
      | (with_reducible exact ih2 _ _ _)
      | (with_reducible exact deckleref04_UTF8.mono _ _)
      | (with_reducible exact LeO.refl _)
      | (with_reducible exact LeO.none _)
      | (with_reducible refine LeO.ite ?_ ?_)
      | (with_reducible refine LeO.bind ?_ (fun _ => ?_))
      | exact ih0 _ _ _ _
      | exact ih1 _ _ _ _
      | exact ih2 _ _ _
      | exact deckleref04_UTF8.mono _ _
      | exact LeO.none _
      | refine LeO.ite ?_ ?_
      | refine LeO.bind ?_ (fun _ => ?_)
set_option maxHeartbeats 8000000 in
set_option maxRecDepth 100000 in
theorem deckleref04_Check.calls (k : Nat) (a0 : Int) (a1_0 : Int) (a1_1 : ByteArray) (r : Int) (w : World) (h : deckleref04_Check.f k a0 a1_0 a1_1 = some r) :
    Calls Tryd.prog 47 #[.int .i64 a0, .agg #[.int .u64 a1_0, .string a1_1]] w fun e w' => e = .returned (.int .i64 r) ∧ Below w.heap.size w w' := by
  have hu47 := Tryd.underlying47
  have HB := Aside0.mk (Below.refl w.heap.size w)
  have H : (if a0 < 0 then (deckleref04_Check.j0 k a0 true a1_0 a1_1) else (deckleref04_Check.j0 k a0 (decide (a0 > 5)) a1_0 a1_1)) = some r := h
  clear h
  have HC3 := Aside0.mk H
  clear H
  go_enter Tryd.func47, Tryd.ntmps47
  go_upto_region 1 with (first | ((with_reducible refine gate_dst (N := 3) rfl ?_); refine box_event ?hg (N := 3) ?hd (cs := #[.int .u64 a1_0, .string a1_1]) (t := 47) ?hr ?_; (case hd => rfl); (case hg => rfl); (case hr => first | (go_simp; done) | (go_simp; rfl)); intro gb101 hg w4 hbox hb; have n0_ := Aside0.mk (below_step (by repeat (first | (with_reducible first | exact HB.out | apply below_alloc | apply pw_below_drewN | apply below_drew1) | exact HB.out)) hb); have n1_ := Aside0.mk (hbox); have n2_ := Aside0.mk ((by rw [hg]; exact (below_size (by repeat (first | (with_reducible first | exact HB.out | apply below_alloc | apply pw_below_drewN | apply below_drew1) | exact HB.out))) : w.heap.size ≤ gb101)); have n3_ := Aside0.mk ((by rw [hg]; exact (below_size (by repeat (first | (with_reducible first | exact HB.out | apply below_alloc | apply pw_below_drewN | apply below_drew1) | exact HB.out))) : w.heap.size ≤ gb101)); clear HB; have HB := n0_; have BK101 := n1_; have GW101 := n2_; have GE101 := n3_; clear n0_ n1_ n2_ n3_; clear hb hbox hg))
  (try simp only [Act.put, List.setIfInBounds_toArray, List.set_cons_zero, List.set_cons_succ])
  go_cut [11] (fun v11 wc => ∃ (kq : Nat) (x11_2 : Bool), v11 = .bool x11_2 ∧ Aside0 (deckleref04_Check.j0 kq a0 x11_2 a1_0 a1_1 = some r) ∧ Aside0 (kq ≤ k) ∧ Aside0 (wc.heap[gb101]? = some (.cells #[.int .u64 a1_0, .string a1_1] 47 (0, 0))) ∧ Aside0 (Below w.heap.size w wc))
  case first =>
    have H := HC3.out
    clear HC3
    by_cases c5 : a0 < 0
    · rw [if_pos c5] at H
      have c5b0 : decide (a0 < 0) = true := decide_eq_true c5
      clear c5
      (first | rw [c5b0] | (simp only [i64_w, i32_w]; rw [c5b0]) | skip)
      have H' := Aside0.mk H
      clear H
      go_wp2
      go_meet
      case rel => exact ⟨_, (true), (by first | rfl | (simp; done) | (simp [*]; done)), H', ⟨by first | omega | exact Nat.le_refl _⟩, ⟨by (with_reducible repeat (first | refine blk_drewN ?_ _ | refine blk_drew ?_ | refine blk_alloc ?_ _)); exact BK101.out⟩, ⟨by repeat (first | (with_reducible first | exact HB.out | apply below_alloc | apply pw_below_drewN | apply below_drew1 | refine below_set ?_ GE101.out) | exact HB.out)⟩⟩
    · rw [if_neg c5] at H
      have c5b0 : decide (a0 < 0) = false := decide_eq_false c5
      clear c5
      (first | rw [c5b0] | (simp only [i64_w, i32_w]; rw [c5b0]) | skip)
      have H' := Aside0.mk H
      clear H
      go_wp2
      go_meet
      case rel => exact ⟨_, (decide (a0 > 5)), (by first | rfl | (simp; done) | (simp [*]; done)), H', ⟨by first | omega | exact Nat.le_refl _⟩, ⟨by (with_reducible repeat (first | refine blk_drewN ?_ _ | refine blk_drew ?_ | refine blk_alloc ?_ _)); exact BK101.out⟩, ⟨by repeat (first | (with_reducible first | exact HB.out | apply below_alloc | apply pw_below_drewN | apply below_drew1 | refine below_set ?_ GE101.out) | exact HB.out)⟩⟩
  case rest =>
    clear HC3
    try clear p2
    try clear c4
    try clear c5
    try clear c5b0
    obtain ⟨kq, x11_2, rfl, HA, HJ2, BK101, HB⟩ := hcut
    cases kq with
    | zero => exact absurd HA.out (by simp [deckleref04_Check.j0])
    | succ kj2 =>
      have H := HA.out
      clear HA
      simp only [deckleref04_Check.j0] at H
      by_cases c6 : x11_2 = true
      · subst c6
        have H1 : (some 10) = some r := by rw [if_pos rfl] at H; exact H
        clear H
        have H := H1
        clear H1
        obtain rfl := Option.some.inj H
        go_wp2
        go_ret
        exact ⟨by first | rfl | (simp [errW_none, errW_some] <;> rfl) | (simp [*, errW_none, errW_some] <;> rfl), by repeat (first | (with_reducible first | exact HB.out | apply below_alloc | apply pw_below_drewN | apply below_drew1 | refine below_set ?_ GE101.out) | exact HB.out)⟩
      · replace c6 := Bool.eq_false_iff.mpr c6
        subst c6
        have H1 : (if a0 = 3 then (deckleref04_Check.j1 kj2 a0 true a1_0 a1_1) else (deckleref04_Check.j1 kj2 a0 (a0 == 4) a1_0 a1_1)) = some r := by rw [if_neg (show ¬ (false = true) by decide)] at H; exact H
        clear H
        have H := H1
        clear H1
        have HC7 := Aside0.mk H
        clear H
        go_upto_region 3 with (fail)
        go_cut [5] (fun v5 wc => ∃ (kq : Nat) (x5_6 : Bool), v5 = .bool x5_6 ∧ Aside0 (deckleref04_Check.j1 kq a0 x5_6 a1_0 a1_1 = some r) ∧ Aside0 (kq ≤ kj2) ∧ Aside0 (wc.heap[gb101]? = some (.cells #[.int .u64 a1_0, .string a1_1] 47 (0, 0))) ∧ Aside0 (Below w.heap.size w wc))
        case first =>
          have H := HC7.out
          clear HC7
          by_cases c8 : a0 = 3
          · rw [if_pos c8] at H
            have c8b0 : (a0 == 3) = true := beq_iff_eq.mpr c8
            have c8b1 : (a0 != 3) = false := bne_eq_false_iff_eq.mpr c8
            clear c8
            (first | rw [c8b0] | (simp only [i64_w, i32_w]; rw [c8b0]) | skip)
            have H' := Aside0.mk H
            clear H
            go_wp2
            go_meet
            case rel => exact ⟨_, (true), (by first | rfl | (simp; done) | (simp [*]; done)), H', ⟨by have := HJ2.out; first | omega | exact Nat.le_refl _⟩, ⟨by (with_reducible repeat (first | refine blk_drewN ?_ _ | refine blk_drew ?_ | refine blk_alloc ?_ _)); exact BK101.out⟩, ⟨by repeat (first | (with_reducible first | exact HB.out | apply below_alloc | apply pw_below_drewN | apply below_drew1 | refine below_set ?_ GE101.out) | exact HB.out)⟩⟩
          · rw [if_neg c8] at H
            have c8b0 : (a0 == 3) = false := beq_eq_false_iff_ne.mpr c8
            have c8b1 : (a0 != 3) = true := bne_iff_ne.mpr c8
            (first | rw [c8b0] | (simp only [i64_w, i32_w]; rw [c8b0]) | skip)
            have H' := Aside0.mk H
            clear H
            go_wp2
            go_meet
            case rel => exact ⟨_, ((a0 == 4)), (by first | rfl | (simp; done) | (simp [*]; done)), H', ⟨by have := HJ2.out; first | omega | exact Nat.le_refl _⟩, ⟨by (with_reducible repeat (first | refine blk_drewN ?_ _ | refine blk_drew ?_ | refine blk_alloc ?_ _)); exact BK101.out⟩, ⟨by repeat (first | (with_reducible first | exact HB.out | apply below_alloc | apply pw_below_drewN | apply below_drew1 | refine below_set ?_ GE101.out) | exact HB.out)⟩⟩
        case rest =>
          clear HC7
          try clear p2
          try clear c4
          try clear c5
          try clear c5b0
          try clear c6
          try clear c8
          try clear c8b0
          try clear c8b1
          try clear p2
          obtain ⟨kq, x5_6, rfl, HA, HJ6, BK101, HB⟩ := hcut
          cases kq with
          | zero => exact absurd HA.out (by simp [deckleref04_Check.j1])
          | succ kj6 =>
            have H := HA.out
            clear HA
            simp only [deckleref04_Check.j1] at H
            have HC9 := Aside0.mk H
            clear H
            go_upto_region 4 with (fail)
            go_cut [51] (fun v51 wc => ∃ (kq : Nat) (x51_8 : Bool), v51 = .bool x51_8 ∧ Aside0 (deckleref04_Check.j2 kq x51_8 a1_0 a1_1 = some r) ∧ Aside0 (kq ≤ kj6) ∧ Aside0 (wc.heap[gb101]? = some (.cells #[.int .u64 a1_0, .string a1_1] 47 (0, 0))) ∧ Aside0 (Below w.heap.size w wc))
            case first =>
              have H := HC9.out
              clear HC9
              by_cases c10 : x5_6 = true
              · subst c10
                have H1 : (if a1_0 = 0 then (if a0 = 2 then (if a1_0 > 1 then (deckleref04_Check.j2 kj6 true a1_0 a1_1) else (if a0 = 4 then ((deckleref04_UTF8.f kj6 a1_1).bind fun t102 => (deckleref04_Check.j2 kj6 (!t102) a1_0 a1_1)) else (deckleref04_Check.j2 kj6 false a1_0 a1_1))) else (if a0 = 4 then ((deckleref04_UTF8.f kj6 a1_1).bind fun t103 => (deckleref04_Check.j2 kj6 (!t103) a1_0 a1_1)) else (deckleref04_Check.j2 kj6 false a1_0 a1_1))) else (deckleref04_Check.j2 kj6 true a1_0 a1_1)) = some r := by rw [if_pos rfl] at H; exact H
                clear H
                have H := H1
                clear H1
                by_cases c11 : a1_0 = 0
                · rw [if_pos c11] at H
                  have c11b0 : (a1_0 == 0) = true := beq_iff_eq.mpr c11
                  have c11b1 : (a1_0 != 0) = false := bne_eq_false_iff_eq.mpr c11
                  clear c11
                  (first | rw [c11b0] | (simp only [i64_w, i32_w]; rw [c11b0]) | skip)
                  by_cases c12 : a0 = 2
                  · rw [if_pos c12] at H
                    have c12b0 : (a0 == 2) = true := beq_iff_eq.mpr c12
                    have c12b1 : (a0 != 2) = false := bne_eq_false_iff_eq.mpr c12
                    clear c12
                    by_cases c13 : a1_0 > 1
                    · rw [if_pos c13] at H
                      have c13b0 : decide (1 < a1_0) = true := decide_eq_true c13
                      clear c13
                      have H' := Aside0.mk H
                      clear H
                      have hcz14_0 : wc.cell? ⟨gb101, 0, none⟩ = some (.int .u64 a1_0) := (blk_cell BK101.out 0).trans rfl
                      have hcz14_1 : wc.cell? ⟨gb101, 1, none⟩ = some (.string a1_1) := (blk_cell BK101.out 1).trans rfl
                      have hfz14_0 := blk_frozen BK101.out 0
                      have hfz14_1 := blk_frozen BK101.out 1
                      go_wp2
                      go_meet
                      case rel => exact ⟨_, (true), (by first | rfl | (simp; done) | (simp [*]; done)), H', ⟨by have := HJ2.out; have := HJ6.out; first | omega | exact Nat.le_refl _⟩, ⟨by (with_reducible repeat (first | refine blk_drewN ?_ _ | refine blk_drew ?_ | refine blk_alloc ?_ _)); exact BK101.out⟩, ⟨by repeat (first | (with_reducible first | exact HB.out | apply below_alloc | apply pw_below_drewN | apply below_drew1 | refine below_set ?_ GE101.out) | exact HB.out)⟩⟩
                    · rw [if_neg c13] at H
                      have c13b0 : decide (1 < a1_0) = false := decide_eq_false c13
                      clear c13
                      by_cases c15 : a0 = 4
                      · rw [if_pos c15] at H
                        have c15b0 : (a0 == 4) = true := beq_iff_eq.mpr c15
                        have c15b1 : (a0 != 4) = false := bne_eq_false_iff_eq.mpr c15
                        clear c15
                        replace H := Option.bind_eq_some_iff.mp H
                        obtain ⟨t102, A160, H⟩ := H
                        replace H : (deckleref04_Check.j2 kj6 (!t102) a1_0 a1_1) = some r := H
                        have A16 := Aside0.mk A160
                        clear A160
                        have H' := Aside0.mk H
                        clear H
                        have hcz17_0 : wc.cell? ⟨gb101, 0, none⟩ = some (.int .u64 a1_0) := (blk_cell BK101.out 0).trans rfl
                        have hcz17_1 : wc.cell? ⟨gb101, 1, none⟩ = some (.string a1_1) := (blk_cell BK101.out 1).trans rfl
                        have hfz17_0 := blk_frozen BK101.out 0
                        have hfz17_1 := blk_frozen BK101.out 1
                        go_wp2_with (first | (go_at_call 87; (with_reducible refine (deckleref04_UTF8.calls kj6 a1_1 t102 _ A16.out).mono ?_); rintro e w' ⟨rfl, ⟨nd, rfl⟩⟩))
                        go_meet
                        case rel => exact ⟨_, (!t102), (by first | rfl | (simp; done) | (simp [*]; done)), H', ⟨by have := HJ2.out; have := HJ6.out; first | omega | exact Nat.le_refl _⟩, ⟨by (with_reducible repeat (first | refine blk_drewN ?_ _ | refine blk_drew ?_ | refine blk_alloc ?_ _)); exact BK101.out⟩, ⟨by repeat (first | (with_reducible first | exact HB.out | apply below_alloc | apply pw_below_drewN | apply below_drew1 | refine below_set ?_ GE101.out) | exact HB.out)⟩⟩
                      · rw [if_neg c15] at H
                        have c15b0 : (a0 == 4) = false := beq_eq_false_iff_ne.mpr c15
                        have c15b1 : (a0 != 4) = true := bne_iff_ne.mpr c15
                        have H' := Aside0.mk H
                        clear H
                        have hcz18_0 : wc.cell? ⟨gb101, 0, none⟩ = some (.int .u64 a1_0) := (blk_cell BK101.out 0).trans rfl
                        have hcz18_1 : wc.cell? ⟨gb101, 1, none⟩ = some (.string a1_1) := (blk_cell BK101.out 1).trans rfl
                        have hfz18_0 := blk_frozen BK101.out 0
                        have hfz18_1 := blk_frozen BK101.out 1
                        go_wp2
                        go_meet
                        case rel => exact ⟨_, (false), (by first | rfl | (simp; done) | (simp [*]; done)), H', ⟨by have := HJ2.out; have := HJ6.out; first | omega | exact Nat.le_refl _⟩, ⟨by (with_reducible repeat (first | refine blk_drewN ?_ _ | refine blk_drew ?_ | refine blk_alloc ?_ _)); exact BK101.out⟩, ⟨by repeat (first | (with_reducible first | exact HB.out | apply below_alloc | apply pw_below_drewN | apply below_drew1 | refine below_set ?_ GE101.out) | exact HB.out)⟩⟩
                  · rw [if_neg c12] at H
                    have c12b0 : (a0 == 2) = false := beq_eq_false_iff_ne.mpr c12
                    have c12b1 : (a0 != 2) = true := bne_iff_ne.mpr c12
                    by_cases c19 : a0 = 4
                    · rw [if_pos c19] at H
                      have c19b0 : (a0 == 4) = true := beq_iff_eq.mpr c19
                      have c19b1 : (a0 != 4) = false := bne_eq_false_iff_eq.mpr c19
                      clear c19
                      replace H := Option.bind_eq_some_iff.mp H
                      obtain ⟨t103, A200, H⟩ := H
                      replace H : (deckleref04_Check.j2 kj6 (!t103) a1_0 a1_1) = some r := H
                      have A20 := Aside0.mk A200
                      clear A200
                      have H' := Aside0.mk H
                      clear H
                      have hcz21_0 : wc.cell? ⟨gb101, 0, none⟩ = some (.int .u64 a1_0) := (blk_cell BK101.out 0).trans rfl
                      have hcz21_1 : wc.cell? ⟨gb101, 1, none⟩ = some (.string a1_1) := (blk_cell BK101.out 1).trans rfl
                      have hfz21_0 := blk_frozen BK101.out 0
                      have hfz21_1 := blk_frozen BK101.out 1
                      go_wp2_with (first | (go_at_call 87; (with_reducible refine (deckleref04_UTF8.calls kj6 a1_1 t103 _ A20.out).mono ?_); rintro e w' ⟨rfl, ⟨nd, rfl⟩⟩))
                      go_meet
                      case rel => exact ⟨_, (!t103), (by first | rfl | (simp; done) | (simp [*]; done)), H', ⟨by have := HJ2.out; have := HJ6.out; first | omega | exact Nat.le_refl _⟩, ⟨by (with_reducible repeat (first | refine blk_drewN ?_ _ | refine blk_drew ?_ | refine blk_alloc ?_ _)); exact BK101.out⟩, ⟨by repeat (first | (with_reducible first | exact HB.out | apply below_alloc | apply pw_below_drewN | apply below_drew1 | refine below_set ?_ GE101.out) | exact HB.out)⟩⟩
                    · rw [if_neg c19] at H
                      have c19b0 : (a0 == 4) = false := beq_eq_false_iff_ne.mpr c19
                      have c19b1 : (a0 != 4) = true := bne_iff_ne.mpr c19
                      have H' := Aside0.mk H
                      clear H
                      have hcz22_0 : wc.cell? ⟨gb101, 0, none⟩ = some (.int .u64 a1_0) := (blk_cell BK101.out 0).trans rfl
                      have hcz22_1 : wc.cell? ⟨gb101, 1, none⟩ = some (.string a1_1) := (blk_cell BK101.out 1).trans rfl
                      have hfz22_0 := blk_frozen BK101.out 0
                      have hfz22_1 := blk_frozen BK101.out 1
                      go_wp2
                      go_meet
                      case rel => exact ⟨_, (false), (by first | rfl | (simp; done) | (simp [*]; done)), H', ⟨by have := HJ2.out; have := HJ6.out; first | omega | exact Nat.le_refl _⟩, ⟨by (with_reducible repeat (first | refine blk_drewN ?_ _ | refine blk_drew ?_ | refine blk_alloc ?_ _)); exact BK101.out⟩, ⟨by repeat (first | (with_reducible first | exact HB.out | apply below_alloc | apply pw_below_drewN | apply below_drew1 | refine below_set ?_ GE101.out) | exact HB.out)⟩⟩
                · rw [if_neg c11] at H
                  have c11b0 : (a1_0 == 0) = false := beq_eq_false_iff_ne.mpr c11
                  have c11b1 : (a1_0 != 0) = true := bne_iff_ne.mpr c11
                  (first | rw [c11b0] | (simp only [i64_w, i32_w]; rw [c11b0]) | skip)
                  have H' := Aside0.mk H
                  clear H
                  have hcz23_0 : wc.cell? ⟨gb101, 0, none⟩ = some (.int .u64 a1_0) := (blk_cell BK101.out 0).trans rfl
                  have hcz23_1 : wc.cell? ⟨gb101, 1, none⟩ = some (.string a1_1) := (blk_cell BK101.out 1).trans rfl
                  have hfz23_0 := blk_frozen BK101.out 0
                  have hfz23_1 := blk_frozen BK101.out 1
                  go_wp2
                  go_meet
                  case rel => exact ⟨_, (true), (by first | rfl | (simp; done) | (simp [*]; done)), H', ⟨by have := HJ2.out; have := HJ6.out; first | omega | exact Nat.le_refl _⟩, ⟨by (with_reducible repeat (first | refine blk_drewN ?_ _ | refine blk_drew ?_ | refine blk_alloc ?_ _)); exact BK101.out⟩, ⟨by repeat (first | (with_reducible first | exact HB.out | apply below_alloc | apply pw_below_drewN | apply below_drew1 | refine below_set ?_ GE101.out) | exact HB.out)⟩⟩
              · replace c10 := Bool.eq_false_iff.mpr c10
                subst c10
                have H1 : (if a1_1.toList = ([] : List UInt8) then (if a0 = 2 then (if a1_0 > 1 then (deckleref04_Check.j2 kj6 true a1_0 a1_1) else (if a0 = 4 then ((deckleref04_UTF8.f kj6 a1_1).bind fun t104 => (deckleref04_Check.j2 kj6 (!t104) a1_0 a1_1)) else (deckleref04_Check.j2 kj6 false a1_0 a1_1))) else (if a0 = 4 then ((deckleref04_UTF8.f kj6 a1_1).bind fun t105 => (deckleref04_Check.j2 kj6 (!t105) a1_0 a1_1)) else (deckleref04_Check.j2 kj6 false a1_0 a1_1))) else (deckleref04_Check.j2 kj6 true a1_0 a1_1)) = some r := by rw [if_neg (show ¬ (false = true) by decide)] at H; exact H
                clear H
                have H := H1
                clear H1
                by_cases c24 : a1_1.toList = ([] : List UInt8)
                · rw [if_pos c24] at H
                  have c24b0 : (a1_1.toList == ([] : List UInt8)) = true := beq_iff_eq.mpr c24
                  have c24b1 : (a1_1.toList != ([] : List UInt8)) = false := bne_eq_false_iff_eq.mpr c24
                  clear c24
                  by_cases c25 : a0 = 2
                  · rw [if_pos c25] at H
                    have c25b0 : (a0 == 2) = true := beq_iff_eq.mpr c25
                    have c25b1 : (a0 != 2) = false := bne_eq_false_iff_eq.mpr c25
                    clear c25
                    by_cases c26 : a1_0 > 1
                    · rw [if_pos c26] at H
                      have c26b0 : decide (1 < a1_0) = true := decide_eq_true c26
                      clear c26
                      have H' := Aside0.mk H
                      clear H
                      have hcz27_0 : wc.cell? ⟨gb101, 0, none⟩ = some (.int .u64 a1_0) := (blk_cell BK101.out 0).trans rfl
                      have hcz27_1 : wc.cell? ⟨gb101, 1, none⟩ = some (.string a1_1) := (blk_cell BK101.out 1).trans rfl
                      have hfz27_0 := blk_frozen BK101.out 0
                      have hfz27_1 := blk_frozen BK101.out 1
                      go_wp2
                      go_meet
                      case rel => exact ⟨_, (true), (by first | rfl | (simp; done) | (simp [*]; done)), H', ⟨by have := HJ2.out; have := HJ6.out; first | omega | exact Nat.le_refl _⟩, ⟨by (with_reducible repeat (first | refine blk_drewN ?_ _ | refine blk_drew ?_ | refine blk_alloc ?_ _)); exact BK101.out⟩, ⟨by repeat (first | (with_reducible first | exact HB.out | apply below_alloc | apply pw_below_drewN | apply below_drew1 | refine below_set ?_ GE101.out) | exact HB.out)⟩⟩
                    · rw [if_neg c26] at H
                      have c26b0 : decide (1 < a1_0) = false := decide_eq_false c26
                      clear c26
                      by_cases c28 : a0 = 4
                      · rw [if_pos c28] at H
                        have c28b0 : (a0 == 4) = true := beq_iff_eq.mpr c28
                        have c28b1 : (a0 != 4) = false := bne_eq_false_iff_eq.mpr c28
                        clear c28
                        replace H := Option.bind_eq_some_iff.mp H
                        obtain ⟨t104, A290, H⟩ := H
                        replace H : (deckleref04_Check.j2 kj6 (!t104) a1_0 a1_1) = some r := H
                        have A29 := Aside0.mk A290
                        clear A290
                        have H' := Aside0.mk H
                        clear H
                        have hcz30_0 : wc.cell? ⟨gb101, 0, none⟩ = some (.int .u64 a1_0) := (blk_cell BK101.out 0).trans rfl
                        have hcz30_1 : wc.cell? ⟨gb101, 1, none⟩ = some (.string a1_1) := (blk_cell BK101.out 1).trans rfl
                        have hfz30_0 := blk_frozen BK101.out 0
                        have hfz30_1 := blk_frozen BK101.out 1
                        go_wp2_with (first | (go_at_call 87; (with_reducible refine (deckleref04_UTF8.calls kj6 a1_1 t104 _ A29.out).mono ?_); rintro e w' ⟨rfl, ⟨nd, rfl⟩⟩))
                        go_meet
                        case rel => exact ⟨_, (!t104), (by first | rfl | (simp; done) | (simp [*]; done)), H', ⟨by have := HJ2.out; have := HJ6.out; first | omega | exact Nat.le_refl _⟩, ⟨by (with_reducible repeat (first | refine blk_drewN ?_ _ | refine blk_drew ?_ | refine blk_alloc ?_ _)); exact BK101.out⟩, ⟨by repeat (first | (with_reducible first | exact HB.out | apply below_alloc | apply pw_below_drewN | apply below_drew1 | refine below_set ?_ GE101.out) | exact HB.out)⟩⟩
                      · rw [if_neg c28] at H
                        have c28b0 : (a0 == 4) = false := beq_eq_false_iff_ne.mpr c28
                        have c28b1 : (a0 != 4) = true := bne_iff_ne.mpr c28
                        have H' := Aside0.mk H
                        clear H
                        have hcz31_0 : wc.cell? ⟨gb101, 0, none⟩ = some (.int .u64 a1_0) := (blk_cell BK101.out 0).trans rfl
                        have hcz31_1 : wc.cell? ⟨gb101, 1, none⟩ = some (.string a1_1) := (blk_cell BK101.out 1).trans rfl
                        have hfz31_0 := blk_frozen BK101.out 0
                        have hfz31_1 := blk_frozen BK101.out 1
                        go_wp2
                        go_meet
                        case rel => exact ⟨_, (false), (by first | rfl | (simp; done) | (simp [*]; done)), H', ⟨by have := HJ2.out; have := HJ6.out; first | omega | exact Nat.le_refl _⟩, ⟨by (with_reducible repeat (first | refine blk_drewN ?_ _ | refine blk_drew ?_ | refine blk_alloc ?_ _)); exact BK101.out⟩, ⟨by repeat (first | (with_reducible first | exact HB.out | apply below_alloc | apply pw_below_drewN | apply below_drew1 | refine below_set ?_ GE101.out) | exact HB.out)⟩⟩
                  · rw [if_neg c25] at H
                    have c25b0 : (a0 == 2) = false := beq_eq_false_iff_ne.mpr c25
                    have c25b1 : (a0 != 2) = true := bne_iff_ne.mpr c25
                    by_cases c32 : a0 = 4
                    · rw [if_pos c32] at H
                      have c32b0 : (a0 == 4) = true := beq_iff_eq.mpr c32
                      have c32b1 : (a0 != 4) = false := bne_eq_false_iff_eq.mpr c32
                      clear c32
                      replace H := Option.bind_eq_some_iff.mp H
                      obtain ⟨t105, A330, H⟩ := H
                      replace H : (deckleref04_Check.j2 kj6 (!t105) a1_0 a1_1) = some r := H
                      have A33 := Aside0.mk A330
                      clear A330
                      have H' := Aside0.mk H
                      clear H
                      have hcz34_0 : wc.cell? ⟨gb101, 0, none⟩ = some (.int .u64 a1_0) := (blk_cell BK101.out 0).trans rfl
                      have hcz34_1 : wc.cell? ⟨gb101, 1, none⟩ = some (.string a1_1) := (blk_cell BK101.out 1).trans rfl
                      have hfz34_0 := blk_frozen BK101.out 0
                      have hfz34_1 := blk_frozen BK101.out 1
                      go_wp2_with (first | (go_at_call 87; (with_reducible refine (deckleref04_UTF8.calls kj6 a1_1 t105 _ A33.out).mono ?_); rintro e w' ⟨rfl, ⟨nd, rfl⟩⟩))
                      go_meet
                      case rel => exact ⟨_, (!t105), (by first | rfl | (simp; done) | (simp [*]; done)), H', ⟨by have := HJ2.out; have := HJ6.out; first | omega | exact Nat.le_refl _⟩, ⟨by (with_reducible repeat (first | refine blk_drewN ?_ _ | refine blk_drew ?_ | refine blk_alloc ?_ _)); exact BK101.out⟩, ⟨by repeat (first | (with_reducible first | exact HB.out | apply below_alloc | apply pw_below_drewN | apply below_drew1 | refine below_set ?_ GE101.out) | exact HB.out)⟩⟩
                    · rw [if_neg c32] at H
                      have c32b0 : (a0 == 4) = false := beq_eq_false_iff_ne.mpr c32
                      have c32b1 : (a0 != 4) = true := bne_iff_ne.mpr c32
                      have H' := Aside0.mk H
                      clear H
                      have hcz35_0 : wc.cell? ⟨gb101, 0, none⟩ = some (.int .u64 a1_0) := (blk_cell BK101.out 0).trans rfl
                      have hcz35_1 : wc.cell? ⟨gb101, 1, none⟩ = some (.string a1_1) := (blk_cell BK101.out 1).trans rfl
                      have hfz35_0 := blk_frozen BK101.out 0
                      have hfz35_1 := blk_frozen BK101.out 1
                      go_wp2
                      go_meet
                      case rel => exact ⟨_, (false), (by first | rfl | (simp; done) | (simp [*]; done)), H', ⟨by have := HJ2.out; have := HJ6.out; first | omega | exact Nat.le_refl _⟩, ⟨by (with_reducible repeat (first | refine blk_drewN ?_ _ | refine blk_drew ?_ | refine blk_alloc ?_ _)); exact BK101.out⟩, ⟨by repeat (first | (with_reducible first | exact HB.out | apply below_alloc | apply pw_below_drewN | apply below_drew1 | refine below_set ?_ GE101.out) | exact HB.out)⟩⟩
                · rw [if_neg c24] at H
                  have c24b0 : (a1_1.toList == ([] : List UInt8)) = false := beq_eq_false_iff_ne.mpr c24
                  have c24b1 : (a1_1.toList != ([] : List UInt8)) = true := bne_iff_ne.mpr c24
                  have H' := Aside0.mk H
                  clear H
                  have hcz36_0 : wc.cell? ⟨gb101, 0, none⟩ = some (.int .u64 a1_0) := (blk_cell BK101.out 0).trans rfl
                  have hcz36_1 : wc.cell? ⟨gb101, 1, none⟩ = some (.string a1_1) := (blk_cell BK101.out 1).trans rfl
                  have hfz36_0 := blk_frozen BK101.out 0
                  have hfz36_1 := blk_frozen BK101.out 1
                  go_wp2
                  go_meet
                  case rel => exact ⟨_, (true), (by first | rfl | (simp; done) | (simp [*]; done)), H', ⟨by have := HJ2.out; have := HJ6.out; first | omega | exact Nat.le_refl _⟩, ⟨by (with_reducible repeat (first | refine blk_drewN ?_ _ | refine blk_drew ?_ | refine blk_alloc ?_ _)); exact BK101.out⟩, ⟨by repeat (first | (with_reducible first | exact HB.out | apply below_alloc | apply pw_below_drewN | apply below_drew1 | refine below_set ?_ GE101.out) | exact HB.out)⟩⟩
            case rest =>
              clear HC9
              try clear c1
              try clear c2
              try clear p2
              try clear c3
              try clear c4
              try clear c5
              try clear c5b0
              try clear c6
              try clear c8
              try clear c8b0
              try clear c8b1
              try clear c10
              try clear c11
              try clear c11b0
              try clear c11b1
              try clear c12
              try clear c12b0
              try clear c12b1
              try clear c13
              try clear c13b0
              try clear c15
              try clear c15b0
              try clear c15b1
              try clear c19
              try clear c19b0
              try clear c19b1
              try clear c24
              try clear c24b0
              try clear c24b1
              try clear c25
              try clear c25b0
              try clear c25b1
              try clear c26
              try clear c26b0
              try clear c28
              try clear c28b0
              try clear c28b1
              try clear c32
              try clear c32b0
              try clear c32b1
              try clear hcz14_0
              try clear hcz14_1
              try clear hcz17_0
              try clear hcz17_1
              try clear hcz18_0
              try clear hcz18_1
              try clear hcz21_0
              try clear hcz21_1
              try clear hcz22_0
              try clear hcz22_1
              try clear hcz23_0
              try clear hcz23_1
              try clear hcz27_0
              try clear hcz27_1
              try clear hcz30_0
              try clear hcz30_1
              try clear hcz31_0
              try clear hcz31_1
              try clear hcz34_0
              try clear hcz34_1
              try clear hcz35_0
              try clear hcz35_1
              try clear hcz36_0
              try clear hcz36_1
              try clear hfz14_0
              try clear hfz14_1
              try clear hfz17_0
              try clear hfz17_1
              try clear hfz18_0
              try clear hfz18_1
              try clear hfz21_0
              try clear hfz21_1
              try clear hfz22_0
              try clear hfz22_1
              try clear hfz23_0
              try clear hfz23_1
              try clear hfz27_0
              try clear hfz27_1
              try clear hfz30_0
              try clear hfz30_1
              try clear hfz31_0
              try clear hfz31_1
              try clear hfz34_0
              try clear hfz34_1
              try clear hfz35_0
              try clear hfz35_1
              try clear hfz36_0
              try clear hfz36_1
              try clear p2
              obtain ⟨kq, x51_8, rfl, HA, HJ8, BK101, HB⟩ := hcut
              cases kq with
              | zero => exact absurd HA.out (by simp [deckleref04_Check.j2])
              | succ kj8 =>
                have H := HA.out
                clear HA
                simp only [deckleref04_Check.j2] at H
                by_cases c37 : x51_8 = true
                · subst c37
                  have H1 : (some 11) = some r := by rw [if_pos rfl] at H; exact H
                  clear H
                  have H := H1
                  clear H1
                  obtain rfl := Option.some.inj H
                  go_wp2
                  go_ret
                  exact ⟨by first | rfl | (simp [errW_none, errW_some] <;> rfl) | (simp [*, errW_none, errW_some] <;> rfl), by repeat (first | (with_reducible first | exact HB.out | apply below_alloc | apply pw_below_drewN | apply below_drew1 | refine below_set ?_ GE101.out) | exact HB.out)⟩
                · replace c37 := Bool.eq_false_iff.mpr c37
                  subst c37
                  have H1 : (if (a1_1.size : Int) > 256 then (some 7) else (some 0)) = some r := by rw [if_neg (show ¬ (false = true) by decide)] at H; exact H
                  clear H
                  have H := H1
                  clear H1
                  by_cases c38 : (a1_1.size : Int) > 256
                  · rw [if_pos c38] at H
                    have c38b0 : decide (256 < (a1_1.size : Int)) = true := decide_eq_true c38
                    have c38b1 : decide (256 < a1_1.size) = true := decide_eq_true (by omega)
                    clear c38
                    obtain rfl := Option.some.inj H
                    have hcz39_0 : wc.cell? ⟨gb101, 0, none⟩ = some (.int .u64 a1_0) := (blk_cell BK101.out 0).trans rfl
                    have hcz39_1 : wc.cell? ⟨gb101, 1, none⟩ = some (.string a1_1) := (blk_cell BK101.out 1).trans rfl
                    have hfz39_0 := blk_frozen BK101.out 0
                    have hfz39_1 := blk_frozen BK101.out 1
                    go_wp2
                    go_ret
                    exact ⟨by first | rfl | (simp [errW_none, errW_some] <;> rfl) | (simp [*, errW_none, errW_some] <;> rfl), by repeat (first | (with_reducible first | exact HB.out | apply below_alloc | apply pw_below_drewN | apply below_drew1 | refine below_set ?_ GE101.out) | exact HB.out)⟩
                  · rw [if_neg c38] at H
                    have c38b0 : decide (256 < (a1_1.size : Int)) = false := decide_eq_false c38
                    have c38b1 : decide (256 < a1_1.size) = false := decide_eq_false (by omega)
                    clear c38
                    obtain rfl := Option.some.inj H
                    have hcz40_0 : wc.cell? ⟨gb101, 0, none⟩ = some (.int .u64 a1_0) := (blk_cell BK101.out 0).trans rfl
                    have hcz40_1 : wc.cell? ⟨gb101, 1, none⟩ = some (.string a1_1) := (blk_cell BK101.out 1).trans rfl
                    have hfz40_0 := blk_frozen BK101.out 0
                    have hfz40_1 := blk_frozen BK101.out 1
                    go_wp2
                    go_ret
                    exact ⟨by first | rfl | (simp [errW_none, errW_some] <;> rfl) | (simp [*, errW_none, errW_some] <;> rfl), by repeat (first | (with_reducible first | exact HB.out | apply below_alloc | apply pw_below_drewN | apply below_drew1 | refine below_set ?_ GE101.out) | exact HB.out)⟩

/-! ### deckleref09_Shared: function 33 -/
def deckleref09_Shared.l0 : Nat → ByteArray → ByteArray → Int → Option (Int)
  | 0, _, _, _ => none
  | k + 1, x0, x1, x5 => if x5 < (x0.size : Int) then (if x5 < (x1.size : Int) then (if 0 ≤ x5 then (if (bt x0 x5) = (bt x1 x5) then (deckleref09_Shared.l0 k x0 x1 (wrap64 (x5 + 1))) else (some x5)) else (none)) else (some x5)) else (some x5)
def deckleref09_Shared.f (k : Nat) (a0 : ByteArray) (a1 : ByteArray) : Option (Int) := deckleref09_Shared.l0 k a0 a1 0
theorem deckleref09_Shared.mono_l : ∀ k, (∀ y0 y1 y2, LeO (deckleref09_Shared.l0 k y0 y1 y2) (deckleref09_Shared.l0 (k + 1) y0 y1 y2))
  | 0 => fun _ _ _ r h => by simp [deckleref09_Shared.l0] at h
  | k + 1 => by
    have ih0 := deckleref09_Shared.mono_l k
    · intro y0 y1 y2
      unfold deckleref09_Shared.l0
      repeat' first
      | (with_reducible exact ih0 _ _ _)
      | (with_reducible exact LeO.refl _)
      | (with_reducible exact LeO.none _)
      | (with_reducible refine LeO.ite ?_ ?_)
      | (with_reducible refine LeO.bind ?_ (fun _ => ?_))
      | exact ih0 _ _ _
      | exact LeO.none _
      | refine LeO.ite ?_ ?_
      | refine LeO.bind ?_ (fun _ => ?_)
theorem deckleref09_Shared.mono : ∀ a0 a1 k, LeO (deckleref09_Shared.f k a0 a1) (deckleref09_Shared.f (k + 1) a0 a1) := by
  intro a0 a1 k
  have ih0 := deckleref09_Shared.mono_l k
  unfold deckleref09_Shared.f
  repeat' first
      | (with_reducible exact ih0 _ _ _)
      | (with_reducible exact LeO.refl _)
      | (with_reducible exact LeO.none _)
      | (with_reducible refine LeO.ite ?_ ?_)
      | (with_reducible refine LeO.bind ?_ (fun _ => ?_))
      | exact ih0 _ _ _
      | exact LeO.none _
      | refine LeO.ite ?_ ?_
      | refine LeO.bind ?_ (fun _ => ?_)
set_option maxHeartbeats 8000000 in
set_option maxRecDepth 100000 in
theorem deckleref09_Shared.calls (k : Nat) (a0 : ByteArray) (a1 : ByteArray) (r : Int) (w : World) (h : deckleref09_Shared.f k a0 a1 = some r) :
    Calls Tryd.prog 33 #[.string a0, .string a1] w fun e w' => e = .returned (.int .i64 r) ∧ Drawn0 w w' := by
  have H : (deckleref09_Shared.l0 k a0 a1 0) = some r := h
  clear h
  have H' := Aside0.mk H
  clear H
  go_enter Tryd.func33, Tryd.ntmps33
  go_wp2
  repeat (go_quiet (fail); try go_wp2)
  go_loopg [5] k (fun kq v5 w' => ∃ (x5_1 : Int), v5 = .int .i64 x5_1 ∧ Aside0 (deckleref09_Shared.l0 kq a0 a1 x5_1 = some r) ∧ Aside0 (kq ≤ k) ∧ Drawn0 w w')
  case atStart => exact ⟨(0), (by first | rfl | (simp; done) | (simp [*]; done)), H', ⟨Nat.le_refl _⟩, by repeat (first | exact Drawn0.refl _ | apply Drawn0.step)⟩
  case round =>
    clear H'
    try clear p2
    obtain ⟨x5_1, rfl, HA, HK1, ⟨m1, rfl⟩⟩ := hrel
    cases gk with
    | zero => exact absurd HA.out (by simp [deckleref09_Shared.l0])
    | succ k1 =>
      have H := HA.out
      clear HA
      simp only [deckleref09_Shared.l0] at H
      by_cases c3 : x5_1 < (a0.size : Int)
      · rw [if_pos c3] at H
        have c3b0 : decide (x5_1 < (a0.size : Int)) = true := decide_eq_true c3
        clear c3
        by_cases c4 : x5_1 < (a1.size : Int)
        · rw [if_pos c4] at H
          have c4b0 : decide (x5_1 < (a1.size : Int)) = true := decide_eq_true c4
          clear c4
          by_cases c5 : 0 ≤ x5_1
          · rw [if_pos c5] at H
            have c5b0 : decide (0 ≤ x5_1) = true := decide_eq_true c5
            clear c5
            by_cases c8 : (bt a0 x5_1) = (bt a1 x5_1)
            · rw [if_pos c8] at H
              have c8b0 : ((bt a0 x5_1) == (bt a1 x5_1)) = true := beq_iff_eq.mpr c8
              have c8b1 : ((bt a0 x5_1) != (bt a1 x5_1)) = false := bne_eq_false_iff_eq.mpr c8
              clear c8
              have H' := Aside0.mk H
              clear H
              have p6 : 0 ≤ (x5_1 : Int) := of_decide_eq_true (by first | (with_reducible assumption) | assumption)
              have q6 : x5_1 < (a0.size : Int) := of_decide_eq_true (by first | (with_reducible assumption) | assumption)
              have hx6 := bt_at a0 x5_1
              replace p6 := eq_true p6
              replace q6 := eq_true q6
              have p7 : 0 ≤ (x5_1 : Int) := of_decide_eq_true (by first | (with_reducible assumption) | assumption)
              have q7 : x5_1 < (a1.size : Int) := of_decide_eq_true (by first | (with_reducible assumption) | assumption)
              have hx7 := bt_at a1 x5_1
              replace p7 := eq_true p7
              replace q7 := eq_true q7
              go_wp2
              repeat (go_quiet (fail); try go_wp2)
              go_roundg k1
              case measure => have := HK1.out; omega
              case rel => exact ⟨(wrap64 (x5_1 + 1)), (by first | rfl | (simp; done) | (simp [*]; done)), H', ⟨by have := HK1.out; omega⟩, by repeat (first | exact Drawn0.refl _ | apply Drawn0.step)⟩
            · rw [if_neg c8] at H
              have c8b0 : ((bt a0 x5_1) == (bt a1 x5_1)) = false := beq_eq_false_iff_ne.mpr c8
              have c8b1 : ((bt a0 x5_1) != (bt a1 x5_1)) = true := bne_iff_ne.mpr c8
              obtain rfl := Option.some.inj H
              have p6 : 0 ≤ (x5_1 : Int) := of_decide_eq_true (by first | (with_reducible assumption) | assumption)
              have q6 : x5_1 < (a0.size : Int) := of_decide_eq_true (by first | (with_reducible assumption) | assumption)
              have hx6 := bt_at a0 x5_1
              replace p6 := eq_true p6
              replace q6 := eq_true q6
              have p7 : 0 ≤ (x5_1 : Int) := of_decide_eq_true (by first | (with_reducible assumption) | assumption)
              have q7 : x5_1 < (a1.size : Int) := of_decide_eq_true (by first | (with_reducible assumption) | assumption)
              have hx7 := bt_at a1 x5_1
              replace p7 := eq_true p7
              replace q7 := eq_true q7
              go_wp2
              repeat (go_quiet (fail); try go_wp2)
              go_ret
              exact ⟨by first | rfl | (simp; done) | (simp [*]; done), by repeat (first | exact Drawn0.refl _ | apply Drawn0.step)⟩
          · rw [if_neg c5] at H
            exact absurd H (by simp)
        · rw [if_neg c4] at H
          have c4b0 : decide (x5_1 < (a1.size : Int)) = false := decide_eq_false c4
          clear c4
          obtain rfl := Option.some.inj H
          go_wp2
          repeat (go_quiet (fail); try go_wp2)
          go_ret
          exact ⟨by first | rfl | (simp; done) | (simp [*]; done), by repeat (first | exact Drawn0.refl _ | apply Drawn0.step)⟩
      · rw [if_neg c3] at H
        have c3b0 : decide (x5_1 < (a0.size : Int)) = false := decide_eq_false c3
        clear c3
        obtain rfl := Option.some.inj H
        go_wp2
        repeat (go_quiet (fail); try go_wp2)
        go_ret
        exact ⟨by first | rfl | (simp; done) | (simp [*]; done), by repeat (first | exact Drawn0.refl _ | apply Drawn0.step)⟩

/-- A state of type 115 at block g of W; what its slices lead to came in by w0. -/
def IsS115 (w0 W : World) (g : Nat) (f0 : List Int) (f1 : Int) (f2 : Int) : Prop := ∃ A0 c0, W.heap[g]? = some (.cells #[.slice A0 f0.length c0, .int .i64 f1, .int .i64 f2] 115 (0, 0)) ∧ (w0.heap.size ≤ g ∧ f0.length ≤ c0) ∧ Kd.C (Kd.int .u8) w0 A0 f0.length f0
theorem IsS115.grown {w0 W : World} {g : Nat} {f0 : List Int} {f1 : Int} {f2 : Int} {W1 : World} {row : Option Nat} (h : IsS115 w0 W g f0 f1 f2) (hw : W.grownBy W1 row) (hne : some g ≠ row) : IsS115 w0 W1 g f0 f1 f2 := by
  obtain ⟨A0, c0, hb, hg, hr0⟩ := h
  exact ⟨A0, c0, blk_grown hb hw hne, hg, hr0⟩
theorem IsS115.own_neN {w0 W : World} {g : Nat} {f0 : List Int} {f1 : Int} {f2 : Int} {α : Type} {d : Kd α} {e : Nat} {base : Nat} {ok : Nat → Prop} {v : Value} {xs : List α} (h : IsS115 w0 W g f0 f1 f2) (ho : Kd.N d e W base ok v xs) (ht : e ≠ 115) : some g ≠ v.ownBlock := by
  obtain ⟨A0, c0, hb, hg, hr0⟩ := h
  exact Kd.N_ne ho hb ht
theorem IsS115.fresh {w0 W : World} {g : Nat} {f0 : List Int} {f1 : Int} {f2 : Int} (h : IsS115 w0 W g f0 f1 f2) : ∀ k, W.heap.size ≤ k → k ≠ g := by
  obtain ⟨A0, c0, hb, hg, hr0⟩ := h
  exact Kd.freshB hb
theorem IsS115.kept {w0 W : World} {g : Nat} {f0 : List Int} {f1 : Int} {f2 : Int} {W1 : World} {S : Nat → Prop} (h : IsS115 w0 W g f0 f1 f2) (hk : Kept W W1 S) (hne : ¬ S g) : IsS115 w0 W1 g f0 f1 f2 := by
  obtain ⟨A0, c0, hb, hg, hr0⟩ := h
  exact ⟨A0, c0, blk_kept hb hk hne, hg, hr0⟩
theorem IsS115.below {w0 W : World} {g : Nat} {f0 : List Int} {f1 : Int} {f2 : Int} {W1 : World} (h : IsS115 w0 W g f0 f1 f2) (hw : Below W.heap.size W W1) : IsS115 w0 W1 g f0 f1 f2 := h.grown (grown_of_below hw none) (by simp)
theorem IsS115.alloc {w0 W : World} {g : Nat} {f0 : List Int} {f1 : Int} {f2 : Int} (h : IsS115 w0 W g f0 f1 f2) (o : Obj) : IsS115 w0 (W.alloc o) g f0 f1 f2 := h.below (below_alloc (Below.refl _ _) o)
theorem IsS115.drewN {w0 W : World} {g : Nat} {f0 : List Int} {f1 : Int} {f2 : Int} (h : IsS115 w0 W g f0 f1 f2) (m : Nat) : IsS115 w0 (W.drewN m) g f0 f1 f2 := h
theorem IsS115.drew {w0 W : World} {g : Nat} {f0 : List Int} {f1 : Int} {f2 : Int} (h : IsS115 w0 W g f0 f1 f2) : IsS115 w0 W.drew g f0 f1 f2 := h
theorem IsS115.at_ {w0 W : World} {g : Nat} {f0 : List Int} {f1 : Int} {f2 : Int} {w' : World} {m : Nat} (hq : W.drewN m = w') (h : IsS115 w0 W g f0 f1 f2) : IsS115 w0 w' g f0 f1 f2 := by subst hq; exact IsS115.drewN h m
theorem IsS115.apart {w0 W : World} {g : Nat} {f0 : List Int} {f1 : Int} {f2 : Int} {α : Type} {d : Kd α} {e : Nat} {base : Nat} {ok : Nat → Prop} {v : Value} {xs : List α} (h : IsS115 w0 W g f0 f1 f2) (ho : d.R e W base ok v xs) (ht : ∀ q, q ∈ e :: d.E → q ≠ 115) : d.R e W base (fun k => ok k ∧ k ≠ g) v xs := by
  obtain ⟨A0, c0, hb, hg, hr0⟩ := h
  exact Kd.R_types ho hb ht
theorem IsS115.own_ne {w0 W : World} {g : Nat} {f0 : List Int} {f1 : Int} {f2 : Int} {α : Type} {d : Kd α} {e : Nat} {base : Nat} {ok : Nat → Prop} {v : Value} {xs : List α} (h : IsS115 w0 W g f0 f1 f2) (ho : d.R e W base ok v xs) (ht : e ≠ 115) : some g ≠ v.ownBlock := by
  obtain ⟨A0, c0, hb, hg, hr0⟩ := h
  exact Kd.R_ne ho hb ht
theorem IsS115.apartQ {w0 W : World} {g : Nat} {f0 : List Int} {f1 : Int} {f2 : Int} {α : Type} {d : Kd α} {e : Nat} {base : Nat} {ok : Nat → Prop} {v : Value} {xs : List α} (h : IsS115 w0 W g f0 f1 f2) (ho : d.Q e W base ok v xs) (ht : ∀ q, q ∈ e :: d.E → q ≠ 115) : d.Q e W base (fun k => ok k ∧ k ≠ g) v xs := by
  obtain ⟨A0, c0, hb, hg, hr0⟩ := h
  exact Kd.Q_types ho hb ht
theorem IsS115.own_neQ {w0 W : World} {g : Nat} {f0 : List Int} {f1 : Int} {f2 : Int} {α : Type} {d : Kd α} {e : Nat} {base : Nat} {ok : Nat → Prop} {v : Value} {xs : List α} (h : IsS115 w0 W g f0 f1 f2) (ho : d.Q e W base ok v xs) (ht : e ≠ 115) : some g ≠ v.ownBlock := by
  obtain ⟨A0, c0, hb, hg, hr0⟩ := h
  exact Kd.Q_ne ho hb ht
theorem IsS115.apartS {w0 W : World} {g : Nat} {f0 : List Int} {f1 : Int} {f2 : Int} {α : Type} {d : Kd α} {e : Nat} {base : Nat} {ok : Nat → Prop} {v : Value} {xs : List α} (h : IsS115 w0 W g f0 f1 f2) (ho : d.S e W base ok v xs) (ht : ∀ q, q ∈ e :: d.E → q ≠ 115) : d.S e W base (fun k => ok k ∧ k ≠ g) v xs := by
  obtain ⟨A0, c0, hb, hg, hr0⟩ := h
  exact Kd.S_types ho hb ht
theorem IsS115.own_neS {w0 W : World} {g : Nat} {f0 : List Int} {f1 : Int} {f2 : Int} {α : Type} {d : Kd α} {e : Nat} {base : Nat} {ok : Nat → Prop} {v : Value} {xs : List α} (h : IsS115 w0 W g f0 f1 f2) (ho : d.S e W base ok v xs) (ht : e ≠ 115) : some g ≠ v.ownBlock := by
  obtain ⟨A0, c0, hb, hg, hr0⟩ := h
  exact Kd.S_ne ho hb ht
theorem IsS115.lt {w0 W : World} {g : Nat} {f0 : List Int} {f1 : Int} {f2 : Int} (h : IsS115 w0 W g f0 f1 f2) : g < W.heap.size := by
  obtain ⟨A0, c0, hb, hg, hr0⟩ := h
  exact blk_lt hb
theorem IsS115.ge {w0 W : World} {g : Nat} {f0 : List Int} {f1 : Int} {f2 : Int} (h : IsS115 w0 W g f0 f1 f2) : w0.heap.size ≤ g := by
  obtain ⟨A0, c0, hb, hg, hr0⟩ := h
  exact hg.1
theorem IsS115.ne_blk {w0 W : World} {g : Nat} {f0 : List Int} {f1 : Int} {f2 : Int} {a : Nat} {cs : Array Value} {t : TypeId} {fr : Nat × Nat} (h : IsS115 w0 W g f0 f1 f2) (hb2 : W.heap[a]? = some (.cells cs t fr)) (ht : t ≠ 115) : g ≠ a := by
  obtain ⟨A0, c0, hb, hg, hr0⟩ := h
  rintro rfl
  rw [hb] at hb2
  injection hb2 with hb2
  injection hb2 with _ ht2
  exact ht ht2.symm
theorem IsS115.far {w0 W : World} {g : Nat} {f0 : List Int} {f1 : Int} {f2 : Int} {p : Addr} (h : IsS115 w0 W g f0 f1 f2) (hne : g ≠ p.block) (u : Value) : IsS115 w0 (W.setCell p u) g f0 f1 f2 := by
  obtain ⟨A0, c0, hb, hg, hr0⟩ := h
  exact ⟨A0, c0, blk_far hb hne u, hg, hr0⟩
theorem cellS115_0 {W : World} {g : Nat} {A0 : Option Addr} {c0 : Nat} {f0 : List Int} {f1 : Int} {f2 : Int} (h : W.heap[g]? = some (.cells #[.slice A0 f0.length c0, .int .i64 f1, .int .i64 f2] 115 (0, 0))) : W.cell? ⟨g, 0, none⟩ = some (.slice A0 f0.length c0) := (blk_cell h 0).trans rfl
theorem cellS115_1 {W : World} {g : Nat} {A0 : Option Addr} {c0 : Nat} {f0 : List Int} {f1 : Int} {f2 : Int} (h : W.heap[g]? = some (.cells #[.slice A0 f0.length c0, .int .i64 f1, .int .i64 f2] 115 (0, 0))) : W.cell? ⟨g, 1, none⟩ = some (.int .i64 f1) := (blk_cell h 1).trans rfl
theorem IsS115.set_1 {w0 W : World} {g : Nat} {f0 : List Int} {f1 : Int} {f2 : Int} (h : IsS115 w0 W g f0 f1 f2) (x : Int) : IsS115 w0 (W.setCell ⟨g, 1, none⟩ (.int .i64 x)) g f0 x f2 := by
  obtain ⟨A0, c0, hb, hg, hr0⟩ := h
  exact ⟨A0, c0, by simpa using blk_set hb 1 (.int .i64 x), hg, hr0⟩
theorem cellS115_2 {W : World} {g : Nat} {A0 : Option Addr} {c0 : Nat} {f0 : List Int} {f1 : Int} {f2 : Int} (h : W.heap[g]? = some (.cells #[.slice A0 f0.length c0, .int .i64 f1, .int .i64 f2] 115 (0, 0))) : W.cell? ⟨g, 2, none⟩ = some (.int .i64 f2) := (blk_cell h 2).trans rfl
theorem IsS115.set_2 {w0 W : World} {g : Nat} {f0 : List Int} {f1 : Int} {f2 : Int} (h : IsS115 w0 W g f0 f1 f2) (x : Int) : IsS115 w0 (W.setCell ⟨g, 2, none⟩ (.int .i64 x)) g f0 f1 x := by
  obtain ⟨A0, c0, hb, hg, hr0⟩ := h
  exact ⟨A0, c0, by simpa using blk_set hb 2 (.int .i64 x), hg, hr0⟩
theorem IsS115.new (w0 W : World) (A0 : Option Addr) (c0 : Nat) (f0 : List Int) (f1 : Int) (f2 : Int) (hB : Below w0.heap.size w0 W) (hc0 : f0.length ≤ c0) (hr0 : Kd.C (Kd.int .u8) w0 A0 f0.length f0) : IsS115 w0 (W.alloc (.cells #[.slice A0 f0.length c0, .int .i64 f1, .int .i64 f2] 115)) W.heap.size f0 f1 f2 := ⟨A0, c0, by simpa using heap_alloc_new W _, ⟨hB.size, hc0⟩, hr0⟩

/-! ### deckleref03_Reader_Must: function 119 -/
def deckleref03_Reader_Must.f (s0_0 : List Int) (s0_1 : Int) (s0_2 : Int) (a1 : Bool) (a2 : Int) : Option (Int × Int) := if s0_2 = 0 then (if a1 = true then (some (s0_1, s0_2)) else (some (s0_1, a2))) else (some (s0_1, s0_2))
set_option maxHeartbeats 8000000 in
set_option maxRecDepth 100000 in
theorem deckleref03_Reader_Must.calls (g : Nat) (s0_0 : List Int) (s0_1 : Int) (s0_2 : Int) (a1 : Bool) (a2 : Int) (r1 : Int) (r2 : Int) (w0 w : World) (hI : IsS115 w0 w g s0_0 s0_1 s0_2) (hB : Below w0.heap.size w0 w) (h : deckleref03_Reader_Must.f s0_0 s0_1 s0_2 a1 a2 = some (r1, r2)) :
    Calls Tryd.prog 119 #[.pointer (some ⟨g, 0, none⟩), .bool a1, .int .i64 a2] w fun e w' => e = .returned (.tuple #[]) ∧ IsS115 w0 w' g s0_0 r1 r2 ∧ Below w0.heap.size w0 w' ∧ KeepBut w w' g none := by
  have HI0 := Aside0.mk hI
  have HK := Aside0.mk (KeepBut.refl w g none)
  have HL := Aside0.mk hB.size
  clear hI
  have HW0 := Aside0.mk hB.size
  have HB := Aside0.mk hB
  clear hB
  have H : (if s0_2 = 0 then (if a1 = true then (some (s0_1, s0_2)) else (some (s0_1, a2))) else (some (s0_1, s0_2))) = some (r1, r2) := h
  clear h
  by_cases c4 : s0_2 = 0
  · rw [if_pos c4] at H
    have c4b0 : (s0_2 == 0) = true := beq_iff_eq.mpr c4
    have c4b1 : (s0_2 != 0) = false := bne_eq_false_iff_eq.mpr c4
    clear c4
    by_cases c5 : a1 = true
    · subst c5
      have H1 : (some (s0_1, s0_2)) = some (r1, r2) := by rw [if_pos rfl] at H; exact H
      clear H
      have H := H1
      clear H1
      simp only [Option.some.injEq, Prod.mk.injEq] at H
      obtain ⟨rfl, rfl⟩ := H
      obtain ⟨ASz6_0, cSz6_0, HGz6, hgz6, HSz6_0⟩ := HI0.out
      have hcz6_0 := cellS115_0 HGz6
      have hcz6_1 := cellS115_1 HGz6
      have hcz6_2 := cellS115_2 HGz6
      have hfz6_1 := blk_frozen HGz6 1
      have hfz6_2 := blk_frozen HGz6 2
      clear HGz6 hgz6
      go_enter Tryd.func119, Tryd.ntmps119
      go_wp2
      first | go_end0 | ((try simp only [Exit.inBlock, Exit.then]); refine bodyPost_ret (results_none rfl _ _ _) rfl ?_)
      exact ⟨by first | rfl | (simp [errW_none, errW_some] <;> rfl) | (simp [*, errW_none, errW_some] <;> rfl), by repeat (first | (with_reducible first | exact HI0.out | apply IsS115.alloc | apply IsS115.drewN | apply IsS115.drew | apply IsS115.set_1 | apply IsS115.set_2) | exact HI0.out), by repeat (first | (with_reducible first | exact HB.out | apply below_alloc | apply pw_below_drewN | apply below_drew1 | refine below_set ?_ (IsS115.ge HI0.out)) | exact HB.out), by repeat (first | (with_reducible first | exact HK.out | apply KeepBut.set_ | apply keep_drewN | apply keep_drew | apply keep_alloc) | exact HK.out)⟩
    · replace c5 := Bool.eq_false_iff.mpr c5
      subst c5
      have H1 : (some (s0_1, a2)) = some (r1, r2) := by rw [if_neg (show ¬ (false = true) by decide)] at H; exact H
      clear H
      have H := H1
      clear H1
      simp only [Option.some.injEq, Prod.mk.injEq] at H
      obtain ⟨rfl, rfl⟩ := H
      obtain ⟨ASz7_0, cSz7_0, HGz7, hgz7, HSz7_0⟩ := HI0.out
      have hcz7_0 := cellS115_0 HGz7
      have hcz7_1 := cellS115_1 HGz7
      have hcz7_2 := cellS115_2 HGz7
      have hfz7_1 := blk_frozen HGz7 1
      have hfz7_2 := blk_frozen HGz7 2
      clear HGz7 hgz7
      go_enter Tryd.func119, Tryd.ntmps119
      go_wp2
      first | go_end0 | ((try simp only [Exit.inBlock, Exit.then]); refine bodyPost_ret (results_none rfl _ _ _) rfl ?_)
      exact ⟨by first | rfl | (simp [errW_none, errW_some] <;> rfl) | (simp [*, errW_none, errW_some] <;> rfl), by repeat (first | (with_reducible first | exact HI0.out | apply IsS115.alloc | apply IsS115.drewN | apply IsS115.drew | apply IsS115.set_1 | apply IsS115.set_2) | exact HI0.out), by repeat (first | (with_reducible first | exact HB.out | apply below_alloc | apply pw_below_drewN | apply below_drew1 | refine below_set ?_ (IsS115.ge HI0.out)) | exact HB.out), by repeat (first | (with_reducible first | exact HK.out | apply KeepBut.set_ | apply keep_drewN | apply keep_drew | apply keep_alloc) | exact HK.out)⟩
  · rw [if_neg c4] at H
    have c4b0 : (s0_2 == 0) = false := beq_eq_false_iff_ne.mpr c4
    have c4b1 : (s0_2 != 0) = true := bne_iff_ne.mpr c4
    simp only [Option.some.injEq, Prod.mk.injEq] at H
    obtain ⟨rfl, rfl⟩ := H
    obtain ⟨ASz8_0, cSz8_0, HGz8, hgz8, HSz8_0⟩ := HI0.out
    have hcz8_0 := cellS115_0 HGz8
    have hcz8_1 := cellS115_1 HGz8
    have hcz8_2 := cellS115_2 HGz8
    have hfz8_1 := blk_frozen HGz8 1
    have hfz8_2 := blk_frozen HGz8 2
    clear HGz8 hgz8
    go_enter Tryd.func119, Tryd.ntmps119
    go_wp2
    first | go_end0 | ((try simp only [Exit.inBlock, Exit.then]); refine bodyPost_ret (results_none rfl _ _ _) rfl ?_)
    exact ⟨by first | rfl | (simp [errW_none, errW_some] <;> rfl) | (simp [*, errW_none, errW_some] <;> rfl), by repeat (first | (with_reducible first | exact HI0.out | apply IsS115.alloc | apply IsS115.drewN | apply IsS115.drew | apply IsS115.set_1 | apply IsS115.set_2) | exact HI0.out), by repeat (first | (with_reducible first | exact HB.out | apply below_alloc | apply pw_below_drewN | apply below_drew1 | refine below_set ?_ (IsS115.ge HI0.out)) | exact HB.out), by repeat (first | (with_reducible first | exact HK.out | apply KeepBut.set_ | apply keep_drewN | apply keep_drew | apply keep_alloc) | exact HK.out)⟩

/-! ### deckleref03_Reader_rest: function 143 -/
/-- The document's reader: what is left (a cut; told of the block itself). -/
def deckleref03_Reader_rest.f (s0 : List Int) (s1 : Int) : Option (List Int) := if 0 ≤ s1 then some (s0.drop s1.toNat) else none
theorem deckleref03_Reader_rest.info8 : (Tryd.prog.info? 5).map (fun i => (i.zero, i.size, i.bytes)) = some (some (.int .u8 0), 1, 1) := by kernel_rfl
theorem deckleref03_Reader_rest.cut {W : World} {A : Option Addr} {l : List Int} {c a : Nat} (hC : (Kd.int .u8).C W A l.length l) (hc : l.length ≤ c) (ha : a ≤ l.length) :
    ∃ A1 : Option Addr, (∀ w : World, (Instr.slice 25 (.slice A l.length c) (some (.int .i64 (a : Int))) none none).run Tryd.prog w = .ok (.slice A1 (l.length - a) (c - a)) w) ∧
      (∀ w : World, (Kd.int .u8).C w A l.length l → (Kd.int .u8).C w A1 (l.drop a).length (l.drop a)) ∧ (l.drop a).length ≤ c - a := by
  obtain ⟨i0, hi0, _, hsz0, _⟩ := info_parts deckleref03_Reader_rest.info8
  obtain ⟨A1, h1, h2, h3⟩ := print_drop_of (P := Tryd.prog) (Value.int .u8) 0 25 5 .i64 Tryd.underlying25 hi0 hsz0 A c l (a : Int) (by omega) (by omega) hc
  simp only [Int.toNat_natCast] at h1 h2 h3
  refine ⟨A1, fun w => ?_, fun w hw => Kd.C_of_reads (h1 := fun _ => rfl) (h2 w (Kd.reads_of_C hw)), h3⟩
  rw [h1 w, List.length_drop]
theorem deckleref03_Reader_rest.calls {W : World} {g : Nat} {A : Option Addr} {n c : Nat} {a er : Int} {A1 : Option Addr} {n1 c1 : Nat}
    (hb : W.heap[g]? = some (.cells #[.slice A n c, .int .i64 a, .int .i64 er] 115 (0, 0)))
    (hcut : ∀ w : World, (Instr.slice 25 (.slice A n c) (some (.int .i64 a)) none none).run Tryd.prog w = .ok (.slice A1 n1 c1) w) :
    Calls Tryd.prog 143 #[.pointer (some ⟨g, 0, none⟩)] W fun e w' => e = .returned (.slice A1 n1 c1) ∧ ∃ m, w' = W.drewN m := by
  have c0 : W.cell? ⟨g, 0, none⟩ = some (.slice A n c) := (blk_cell hb 0).trans rfl
  have c1 : W.cell? ⟨g, 1, none⟩ = some (.int .i64 a) := (blk_cell hb 1).trans rfl
  clear hb
  go_enter Tryd.func143, Tryd.ntmps143
  go_wp2
  go_quiet (fail)
  go_wp2
  go_ret
  exact ⟨rfl, _, rfl⟩
/-- What is left, told of the state: a row that reads as the rest; the world has drawn. -/
theorem deckleref03_Reader_rest.state {w0 w : World} {g : Nat} {l : List Int} {a : Nat} {er : Int} (hI : IsS115 w0 w g l (a : Int) er) (hB : Below w0.heap.size w0 w) (ha : a ≤ l.length) :
    ∃ (A1 : Option Addr) (c1 : Nat), (l.drop a).length ≤ c1 ∧ (∀ W, Below w0.heap.size w0 W → (Kd.int .u8).C W A1 (l.drop a).length (l.drop a)) ∧
      (∀ m, Calls Tryd.prog 143 #[.pointer (some ⟨g, 0, none⟩)] (w.drewN m) fun e w' => e = .returned (.slice A1 (l.length - a) c1) ∧ ∃ m, w' = w.drewN m) := by
  obtain ⟨A, c, hb, hg, hr⟩ := hI
  obtain ⟨A1, h1, h2, h3⟩ := deckleref03_Reader_rest.cut hr hg.2 ha
  refine ⟨A1, c - a, h3, fun W hW => h2 W (Kd.C_below hr hW), fun m => ?_⟩
  refine (deckleref03_Reader_rest.calls (W := w.drewN m) hb h1).mono ?_
  rintro e w' ⟨rfl, m2, rfl⟩
  exact ⟨rfl, m + m2, World.drewN_drewN _ _ _⟩

end Go.Proofs.YtmoopdhnnpjcfaaDoor.PCo
namespace Go.Proofs.YtmoopdhnnpjcfaaDoor.PCo
open Go.RowKit Go.Proofs.YtmoopdhnnpjcfaaDoorW.PrintWords Go.Proofs.YtmoopdhnnpjcfaaDoorW.PrintLast Go.Proofs.YtmoopdhnnpjcfaaDoorW.PrintMore
attribute [local go_sem] max2_int min2_int max_two min_two max_three min_three max_four min_four   -- for this text's walks alone
set_option linter.unusedVariables false
set_option linter.unusedSimpArgs false

/-! ### deckleref01_GetUint: function 163 -/
mutual
def deckleref01_GetUint.j1 : Nat → List Int → Int → Option (Int × Int × Int)
  | 0, _, _ => none
  | k + 1, x0, x5 => if x5 = 10 then (some (0, 0, 7)) else (if x5 = (x0.length : Int) then (some (0, 0, 5)) else (deckleref01_GetUint.l1 k x0 x5 0 x5))
def deckleref01_GetUint.l1 : Nat → List Int → Int → Int → Int → Option (Int × Int × Int)
  | 0, _, _, _, _ => none
  | k + 1, x0, x5, x6, x7 => if x7 ≥ 0 then (if x6 > 144115188075855871 then (some (0, 0, 7)) else (if 0 ≤ x7 then (if x7 < (x0.length : Int) then (deckleref01_GetUint.l1 k x0 x5 (IntKind.u64.wrap ((IntKind.u64.wrap (128 * x6)) + (IntKind.u64.wrap (Int.tmod (rd x0 x7) 128)))) (wrap64 (x7 - 1))) else (none)) else (none))) else (if x5 > 0 then (if 0 ≤ x5 then (if x5 < (x0.length : Int) then (if (rd x0 x5) = 0 then (some (0, 0, 6)) else (some (x6, wrap64 (x5 + 1), 0))) else (none)) else (none)) else (some (x6, wrap64 (x5 + 1), 0)))
def deckleref01_GetUint.l0 : Nat → List Int → Int → Option (Int × Int × Int)
  | 0, _, _ => none
  | k + 1, x0, x5 => if x5 < 10 then (if x5 < (x0.length : Int) then (if 0 ≤ x5 then (if (rd x0 x5) > 127 then (deckleref01_GetUint.l0 k x0 (wrap64 (x5 + 1))) else (deckleref01_GetUint.j1 k x0 x5)) else (none)) else (deckleref01_GetUint.j1 k x0 x5)) else (deckleref01_GetUint.j1 k x0 x5)
end
def deckleref01_GetUint.f (k : Nat) (l0 : List Int) : Option (Int × Int × Int) := deckleref01_GetUint.l0 k l0 0
theorem deckleref01_GetUint.mono_l : ∀ k, (∀ y0 y1, LeO (deckleref01_GetUint.j1 k y0 y1) (deckleref01_GetUint.j1 (k + 1) y0 y1)) ∧ (∀ y0 y1 y2 y3, LeO (deckleref01_GetUint.l1 k y0 y1 y2 y3) (deckleref01_GetUint.l1 (k + 1) y0 y1 y2 y3)) ∧ (∀ y0 y1, LeO (deckleref01_GetUint.l0 k y0 y1) (deckleref01_GetUint.l0 (k + 1) y0 y1))
  | 0 => ⟨fun _ _ r h => by simp [deckleref01_GetUint.j1] at h, fun _ _ _ _ r h => by simp [deckleref01_GetUint.l1] at h, fun _ _ r h => by simp [deckleref01_GetUint.l0] at h⟩
  | k + 1 => by
    obtain ⟨ih0, ih1, ih2⟩ := deckleref01_GetUint.mono_l k
    refine ⟨?_, ?_, ?_⟩
    · intro y0 y1
      unfold deckleref01_GetUint.j1
      repeat' first
      | (with_reducible exact ih0 _ _)
      | (with_reducible exact ih1 _ _ _ _)
      | (with_reducible exact ih2 _ _)
      | (with_reducible exact LeO.refl _)
      | (with_reducible exact LeO.none _)
      | (with_reducible refine LeO.ite ?_ ?_)
      | (with_reducible refine LeO.bind ?_ (fun _ => ?_))
      | exact ih0 _ _
      | exact ih1 _ _ _ _
      | exact ih2 _ _
      | exact LeO.none _
      | refine LeO.ite ?_ ?_
      | refine LeO.bind ?_ (fun _ => ?_)
    · intro y0 y1 y2 y3
      unfold deckleref01_GetUint.l1
      repeat' first
      | (with_reducible exact ih0 _ _)
      | (with_reducible exact ih1 _ _ _ _)
      | (with_reducible exact ih2 _ _)
      | (with_reducible exact LeO.refl _)
      | (with_reducible exact LeO.none _)
      | (with_reducible refine LeO.ite ?_ ?_)
      | (with_reducible refine LeO.bind ?_ (fun _ => ?_))
      | exact ih0 _ _
      | exact ih1 _ _ _ _
      | exact ih2 _ _
      | exact LeO.none _
      | refine LeO.ite ?_ ?_
      | refine LeO.bind ?_ (fun _ => ?_)
    · intro y0 y1
      unfold deckleref01_GetUint.l0
      repeat' first
      | (with_reducible exact ih0 _ _)
      | (with_reducible exact ih1 _ _ _ _)
      | (with_reducible exact ih2 _ _)
      | (with_reducible exact LeO.refl _)
      | (with_reducible exact LeO.none _)
      | (with_reducible refine LeO.ite ?_ ?_)
      | (with_reducible refine LeO.bind ?_ (fun _ => ?_))
      | exact ih0 _ _
      | exact ih1 _ _ _ _
      | exact ih2 _ _
      | exact LeO.none _
      | refine LeO.ite ?_ ?_
      | refine LeO.bind ?_ (fun _ => ?_)
theorem deckleref01_GetUint.mono : ∀ a0 k, LeO (deckleref01_GetUint.f k a0) (deckleref01_GetUint.f (k + 1) a0) := by
  intro a0 k
  obtain ⟨ih0, ih1, ih2⟩ := deckleref01_GetUint.mono_l k
  unfold deckleref01_GetUint.f
  repeat' first
      | (with_reducible exact ih0 _ _)
      | (with_reducible exact ih1 _ _ _ _)
      | (with_reducible exact ih2 _ _)
      | (with_reducible exact LeO.refl _)
      | (with_reducible exact LeO.none _)
      | (with_reducible refine LeO.ite ?_ ?_)
      | (with_reducible refine LeO.bind ?_ (fun _ => ?_))
      | exact ih0 _ _
      | exact ih1 _ _ _ _
      | exact ih2 _ _
      | exact LeO.none _
      | refine LeO.ite ?_ ?_
      | refine LeO.bind ?_ (fun _ => ?_)
set_option maxHeartbeats 8000000 in
set_option maxRecDepth 100000 in
theorem deckleref01_GetUint.calls (k : Nat) (A0 : Option Addr) (c0 : Nat) (l0 : List Int) (r1 : Int) (r2 : Int) (r3 : Int) (w : World) (hr0 : Kd.C (Kd.int .u8) w A0 l0.length l0) (hc0 : l0.length ≤ c0) (h : deckleref01_GetUint.f k l0 = some (r1, r2, r3)) :
    Calls Tryd.prog 163 #[.slice A0 l0.length c0] w fun e w' => e = .returned (.tuple #[.int .u64 r1, .int .i64 r2, .int .i64 r3]) ∧ Drawn0 w w' := by
  have HR0 := Aside0.mk hr0
  have HC0 := Aside0.mk hc0
  clear hr0 hc0
  have H : (deckleref01_GetUint.l0 k l0 0) = some (r1, r2, r3) := h
  clear h
  have HC2 := Aside0.mk H
  clear H
  go_enter Tryd.func163, Tryd.ntmps163
  go_upto_block 0 with (fail)
  go_cut [5] (fun v5 wc => ∃ (kq : Nat) (x5_1 : Int), v5 = .int .i64 x5_1 ∧ Aside0 (deckleref01_GetUint.j1 kq l0 x5_1 = some (r1, r2, r3)) ∧ Aside0 (kq ≤ k) ∧ Drawn0 w wc)
  case first =>
    have H := HC2.out
    clear HC2
    have H' := Aside0.mk H
    clear H
    go_wp2
    go_loopg [5] k (fun kq v5 w' => ∃ (x5_1 : Int), v5 = .int .i64 x5_1 ∧ Aside0 (deckleref01_GetUint.l0 kq l0 x5_1 = some (r1, r2, r3)) ∧ Aside0 (kq ≤ k) ∧ Drawn0 w w')
    case atStart => exact ⟨(0), (by first | rfl | (simp; done) | (simp [*]; done)), H', ⟨Nat.le_refl _⟩, by repeat (first | exact Drawn0.refl _ | apply Drawn0.step)⟩
    case round =>
      clear H'
      try clear c1
      try clear p2
      obtain ⟨x5_1, rfl, HA, HK1, ⟨m1, rfl⟩⟩ := hrel
      cases gk with
      | zero => exact absurd HA.out (by simp [deckleref01_GetUint.l0])
      | succ k1 =>
        have H := HA.out
        clear HA
        simp only [deckleref01_GetUint.l0] at H
        by_cases c3 : x5_1 < 10
        · rw [if_pos c3] at H
          have c3b0 : decide (x5_1 < 10) = true := decide_eq_true c3
          clear c3
          (first | rw [c3b0] | (simp only [i64_w, i32_w]; rw [c3b0]) | skip)
          by_cases c4 : x5_1 < (l0.length : Int)
          · rw [if_pos c4] at H
            have c4b0 : decide (x5_1 < (l0.length : Int)) = true := decide_eq_true c4
            clear c4
            by_cases c5 : 0 ≤ x5_1
            · rw [if_pos c5] at H
              have c5b0 : decide (0 ≤ x5_1) = true := decide_eq_true c5
              clear c5
              by_cases c6 : (rd l0 x5_1) > 127
              · rw [if_pos c6] at H
                have c6b0 : decide (127 < (rd l0 x5_1)) = true := decide_eq_true c6
                clear c6
                have H' := Aside0.mk H
                clear H
                have p106 : 0 ≤ (x5_1 : Int) := of_decide_eq_true (by first | (with_reducible assumption) | assumption)
                have q106 : x5_1 < (l0.length : Int) := of_decide_eq_true (by first | (with_reducible assumption) | assumption)
                obtain ⟨ad106, e106, hx106_0⟩ := Kd.at_int HR0.out x5_1 p106 q106
                cases e106
                replace p106 := eq_true p106
                replace q106 := eq_true q106
                go_wp2
                go_roundg k1
                case measure => have := HK1.out; omega
                case rel => exact ⟨(wrap64 (x5_1 + 1)), (by first | rfl | (simp; done) | (simp [*]; done)), H', ⟨by have := HK1.out; omega⟩, by repeat (first | exact Drawn0.refl _ | apply Drawn0.step)⟩
              · rw [if_neg c6] at H
                have c6b0 : decide (127 < (rd l0 x5_1)) = false := decide_eq_false c6
                clear c6
                have H' := Aside0.mk H
                clear H
                have p106 : 0 ≤ (x5_1 : Int) := of_decide_eq_true (by first | (with_reducible assumption) | assumption)
                have q106 : x5_1 < (l0.length : Int) := of_decide_eq_true (by first | (with_reducible assumption) | assumption)
                obtain ⟨ad106, e106, hx106_0⟩ := Kd.at_int HR0.out x5_1 p106 q106
                cases e106
                replace p106 := eq_true p106
                replace q106 := eq_true q106
                go_wp2
                go_meet
                case rel => exact ⟨_, (x5_1), (by first | rfl | (simp; done) | (simp [*]; done)), H', ⟨by have := HK1.out; first | omega | exact Nat.le_refl _⟩, by repeat (first | exact Drawn0.refl _ | apply Drawn0.step)⟩
            · rw [if_neg c5] at H
              exact absurd H (by simp)
          · rw [if_neg c4] at H
            have c4b0 : decide (x5_1 < (l0.length : Int)) = false := decide_eq_false c4
            clear c4
            have H' := Aside0.mk H
            clear H
            go_wp2
            go_meet
            case rel => exact ⟨_, (x5_1), (by first | rfl | (simp; done) | (simp [*]; done)), H', ⟨by have := HK1.out; first | omega | exact Nat.le_refl _⟩, by repeat (first | exact Drawn0.refl _ | apply Drawn0.step)⟩
        · rw [if_neg c3] at H
          have c3b0 : decide (x5_1 < 10) = false := decide_eq_false c3
          clear c3
          (first | rw [c3b0] | (simp only [i64_w, i32_w]; rw [c3b0]) | skip)
          have H' := Aside0.mk H
          clear H
          go_wp2
          go_meet
          case rel => exact ⟨_, (x5_1), (by first | rfl | (simp; done) | (simp [*]; done)), H', ⟨by have := HK1.out; first | omega | exact Nat.le_refl _⟩, by repeat (first | exact Drawn0.refl _ | apply Drawn0.step)⟩
  case rest =>
    clear HC2
    try clear c1
    try clear p1
    try clear q1
    try clear hx1
    try clear p2
    try clear c3
    try clear c3b0
    try clear c4
    try clear c4b0
    try clear c5
    try clear c5b0
    try clear c6
    try clear c6b0
    try clear p6
    try clear hx106_0
    try clear p106
    try clear p2
    try clear q106
    obtain ⟨kq, x5_1, rfl, HA, HJ1, ⟨mc1, rfl⟩⟩ := hcut
    cases kq with
    | zero => exact absurd HA.out (by simp [deckleref01_GetUint.j1])
    | succ kj1 =>
      have H := HA.out
      clear HA
      simp only [deckleref01_GetUint.j1] at H
      by_cases c7 : x5_1 = 10
      · rw [if_pos c7] at H
        have c7b0 : (x5_1 == 10) = true := beq_iff_eq.mpr c7
        have c7b1 : (x5_1 != 10) = false := bne_eq_false_iff_eq.mpr c7
        clear c7
        simp only [Option.some.injEq, Prod.mk.injEq] at H
        obtain ⟨rfl, rfl, rfl⟩ := H
        go_wp2
        go_ret3
        exact ⟨by first | rfl | (simp; done) | (simp [*]; done), by repeat (first | exact Drawn0.refl _ | apply Drawn0.step)⟩
      · rw [if_neg c7] at H
        have c7b0 : (x5_1 == 10) = false := beq_eq_false_iff_ne.mpr c7
        have c7b1 : (x5_1 != 10) = true := bne_iff_ne.mpr c7
        by_cases c8 : x5_1 = (l0.length : Int)
        · rw [if_pos c8] at H
          have c8b0 : (x5_1 == (l0.length : Int)) = true := beq_iff_eq.mpr c8
          have c8b1 : (x5_1 != (l0.length : Int)) = false := bne_eq_false_iff_eq.mpr c8
          clear c8
          simp only [Option.some.injEq, Prod.mk.injEq] at H
          obtain ⟨rfl, rfl, rfl⟩ := H
          go_wp2
          go_ret3
          exact ⟨by first | rfl | (simp; done) | (simp [*]; done), by repeat (first | exact Drawn0.refl _ | apply Drawn0.step)⟩
        · rw [if_neg c8] at H
          have c8b0 : (x5_1 == (l0.length : Int)) = false := beq_eq_false_iff_ne.mpr c8
          have c8b1 : (x5_1 != (l0.length : Int)) = true := bne_iff_ne.mpr c8
          have H' := Aside0.mk H
          clear H
          go_wp2
          go_loopg [6, 7] kj1 (fun kq v6 v7 w' => ∃ (x6_2 : Int) (x7_2 : Int), v6 = .int .u64 x6_2 ∧ v7 = .int .i64 x7_2 ∧ Aside0 (deckleref01_GetUint.l1 kq l0 x5_1 x6_2 x7_2 = some (r1, r2, r3)) ∧ Aside0 (kq ≤ kj1) ∧ Drawn0 w w')
          case atStart => exact ⟨(0), (x5_1), (by first | rfl | (simp; done) | (simp [*]; done)), (by first | rfl | (simp; done) | (simp [*]; done)), H', ⟨Nat.le_refl _⟩, by repeat (first | exact Drawn0.refl _ | apply Drawn0.step)⟩
          case round =>
            clear H'
            try clear c1
            try clear p1
            try clear q1
            try clear hx1
            try clear p2
            try clear c3
            try clear c3b0
            try clear c4
            try clear c4b0
            try clear c5
            try clear c5b0
            try clear c6
            try clear c6b0
            try clear p6
            try clear c7
            try clear c7b0
            try clear c7b1
            try clear c8
            try clear c8b0
            try clear c8b1
            try clear hx106_0
            try clear p1
            try clear p106
            try clear p2
            try clear p6
            try clear q1
            try clear q106
            obtain ⟨x6_2, x7_2, rfl, rfl, HA, HK2, ⟨m2, rfl⟩⟩ := hrel
            cases gk with
            | zero => exact absurd HA.out (by simp [deckleref01_GetUint.l1])
            | succ k2 =>
              have H := HA.out
              clear HA
              simp only [deckleref01_GetUint.l1] at H
              by_cases c9 : x7_2 ≥ 0
              · rw [if_pos c9] at H
                have c9b0 : decide (0 ≤ x7_2) = true := decide_eq_true c9
                clear c9
                by_cases c10 : x6_2 > 144115188075855871
                · rw [if_pos c10] at H
                  have c10b0 : decide (144115188075855871 < x6_2) = true := decide_eq_true c10
                  clear c10
                  simp only [Option.some.injEq, Prod.mk.injEq] at H
                  obtain ⟨rfl, rfl, rfl⟩ := H
                  go_wp2
                  go_ret3
                  exact ⟨by first | rfl | (simp; done) | (simp [*]; done), by repeat (first | exact Drawn0.refl _ | apply Drawn0.step)⟩
                · rw [if_neg c10] at H
                  have c10b0 : decide (144115188075855871 < x6_2) = false := decide_eq_false c10
                  clear c10
                  by_cases c11 : 0 ≤ x7_2
                  · rw [if_pos c11] at H
                    have c11b0 : decide (0 ≤ x7_2) = true := decide_eq_true c11
                    clear c11
                    by_cases c12 : x7_2 < (l0.length : Int)
                    · rw [if_pos c12] at H
                      have c12b0 : decide (x7_2 < (l0.length : Int)) = true := decide_eq_true c12
                      clear c12
                      have H' := Aside0.mk H
                      clear H
                      have p107 : 0 ≤ (x7_2 : Int) := of_decide_eq_true (by first | (with_reducible assumption) | assumption)
                      have q107 : x7_2 < (l0.length : Int) := of_decide_eq_true (by first | (with_reducible assumption) | assumption)
                      obtain ⟨ad107, e107, hx107_0⟩ := Kd.at_int HR0.out x7_2 p107 q107
                      cases e107
                      replace p107 := eq_true p107
                      replace q107 := eq_true q107
                      go_wp2
                      go_roundg k2
                      case measure => have := HJ1.out; have := HK2.out; omega
                      case rel => exact ⟨(IntKind.u64.wrap ((IntKind.u64.wrap (128 * x6_2)) + (IntKind.u64.wrap (Int.tmod (rd l0 x7_2) 128)))), (wrap64 (x7_2 - 1)), (by first | rfl | (simp; done) | (simp [*]; done)), (by first | rfl | (simp; done) | (simp [*]; done)), H', ⟨by have := HJ1.out; have := HK2.out; omega⟩, by repeat (first | exact Drawn0.refl _ | apply Drawn0.step)⟩
                    · rw [if_neg c12] at H
                      exact absurd H (by simp)
                  · rw [if_neg c11] at H
                    exact absurd H (by simp)
              · rw [if_neg c9] at H
                have c9b0 : decide (0 ≤ x7_2) = false := decide_eq_false c9
                clear c9
                by_cases c13 : x5_1 > 0
                · rw [if_pos c13] at H
                  have c13b0 : decide (0 < x5_1) = true := decide_eq_true c13
                  clear c13
                  by_cases c14 : 0 ≤ x5_1
                  · rw [if_pos c14] at H
                    have c14b0 : decide (0 ≤ x5_1) = true := decide_eq_true c14
                    clear c14
                    by_cases c15 : x5_1 < (l0.length : Int)
                    · rw [if_pos c15] at H
                      have c15b0 : decide (x5_1 < (l0.length : Int)) = true := decide_eq_true c15
                      clear c15
                      by_cases c16 : (rd l0 x5_1) = 0
                      · rw [if_pos c16] at H
                        have c16b0 : ((rd l0 x5_1) == 0) = true := beq_iff_eq.mpr c16
                        have c16b1 : ((rd l0 x5_1) != 0) = false := bne_eq_false_iff_eq.mpr c16
                        clear c16
                        simp only [Option.some.injEq, Prod.mk.injEq] at H
                        obtain ⟨rfl, rfl, rfl⟩ := H
                        have p108 : 0 ≤ (x5_1 : Int) := of_decide_eq_true (by first | (with_reducible assumption) | assumption)
                        have q108 : x5_1 < (l0.length : Int) := of_decide_eq_true (by first | (with_reducible assumption) | assumption)
                        obtain ⟨ad108, e108, hx108_0⟩ := Kd.at_int HR0.out x5_1 p108 q108
                        cases e108
                        replace p108 := eq_true p108
                        replace q108 := eq_true q108
                        go_wp2
                        go_ret3
                        exact ⟨by first | rfl | (simp; done) | (simp [*]; done), by repeat (first | exact Drawn0.refl _ | apply Drawn0.step)⟩
                      · rw [if_neg c16] at H
                        have c16b0 : ((rd l0 x5_1) == 0) = false := beq_eq_false_iff_ne.mpr c16
                        have c16b1 : ((rd l0 x5_1) != 0) = true := bne_iff_ne.mpr c16
                        simp only [Option.some.injEq, Prod.mk.injEq] at H
                        obtain ⟨rfl, rfl, rfl⟩ := H
                        have p108 : 0 ≤ (x5_1 : Int) := of_decide_eq_true (by first | (with_reducible assumption) | assumption)
                        have q108 : x5_1 < (l0.length : Int) := of_decide_eq_true (by first | (with_reducible assumption) | assumption)
                        obtain ⟨ad108, e108, hx108_0⟩ := Kd.at_int HR0.out x5_1 p108 q108
                        cases e108
                        replace p108 := eq_true p108
                        replace q108 := eq_true q108
                        go_wp2
                        go_ret3
                        exact ⟨by first | rfl | (simp; done) | (simp [*]; done), by repeat (first | exact Drawn0.refl _ | apply Drawn0.step)⟩
                    · rw [if_neg c15] at H
                      exact absurd H (by simp)
                  · rw [if_neg c14] at H
                    exact absurd H (by simp)
                · rw [if_neg c13] at H
                  have c13b0 : decide (0 < x5_1) = false := decide_eq_false c13
                  clear c13
                  simp only [Option.some.injEq, Prod.mk.injEq] at H
                  obtain ⟨rfl, rfl, rfl⟩ := H
                  go_wp2
                  go_ret3
                  exact ⟨by first | rfl | (simp; done) | (simp [*]; done), by repeat (first | exact Drawn0.refl _ | apply Drawn0.step)⟩

/-! ### deckleref03_Reader_Uint: function 137 -/
def deckleref03_Reader_Uint.g (s0_1 a1 : Int) (q : Int × Int × Int) : Option (Int × Int × Int) :=
  if q.2.2 ≠ 0 then some (0, s0_1, q.2.2) else if a1 < q.1 then some (0, s0_1, 3) else if 0 ≤ q.2.1 ∧ s0_1 + q.2.1 ≤ 9223372036854775807 then some (q.1, s0_1 + q.2.1, 0) else none
def deckleref03_Reader_Uint.f (k : Nat) (s0_0 : List Int) (s0_1 s0_2 : Int) (a1 : Int) : Option (Int × Int × Int) :=
  if 0 ≤ s0_1 ∧ s0_1 ≤ s0_0.length then (if s0_2 ≠ 0 then some (0, s0_1, s0_2) else (deckleref01_GetUint.f k (s0_0.drop s0_1.toNat)).bind fun q => deckleref03_Reader_Uint.g s0_1 a1 q) else none
theorem deckleref03_Reader_Uint.mono : ∀ s0_0 s0_1 s0_2 a1 k, LeO (deckleref03_Reader_Uint.f k s0_0 s0_1 s0_2 a1) (deckleref03_Reader_Uint.f (k + 1) s0_0 s0_1 s0_2 a1) := by
  intro s0_0 s0_1 s0_2 a1 k
  unfold deckleref03_Reader_Uint.f
  exact LeO.ite (LeO.ite (LeO.refl _) (LeO.bind (deckleref01_GetUint.mono _ k) (fun _ => LeO.refl _))) (LeO.refl _)
set_option maxHeartbeats 4000000 in
set_option maxRecDepth 100000 in
theorem deckleref03_Reader_Uint.calls (k : Nat) (g : Nat) (s0_0 : List Int) (s0_1 : Int) (s0_2 : Int) (a1 : Int) (r1 r2 r3 : Int) (w0 w : World) (hI : IsS115 w0 w g s0_0 s0_1 s0_2) (hB : Below w0.heap.size w0 w) (h : deckleref03_Reader_Uint.f k s0_0 s0_1 s0_2 a1 = some (r1, r2, r3)) :
    Calls Tryd.prog 137 #[.pointer (some ⟨g, 0, none⟩), .int .u64 a1] w fun e w' => e = .returned (.int .u64 r1) ∧ IsS115 w0 w' g s0_0 r2 r3 ∧ Below w0.heap.size w0 w' ∧ KeepBut w w' g none := by
  unfold deckleref03_Reader_Uint.f at h
  by_cases hd : 0 ≤ s0_1 ∧ s0_1 ≤ s0_0.length
  case neg => rw [if_neg hd] at h; cases h
  rw [if_pos hd] at h
  obtain ⟨hd0, hd1⟩ := hd
  obtain ⟨a, rfl⟩ := Int.eq_ofNat_of_zero_le hd0
  have ha : a ≤ s0_0.length := by omega
  have HI := Aside0.mk hI
  have HB := Aside0.mk hB
  obtain ⟨A, c, hb, hg, hr⟩ := hI
  have c2 : w.cell? ⟨g, 2, none⟩ = some (.int .i64 s0_2) := (blk_cell hb 2).trans rfl
  have hm := hr.2.1
  by_cases h2 : s0_2 = 0
  case neg =>
    rw [if_pos h2] at h
    simp only [Option.some.injEq, Prod.mk.injEq] at h
    obtain ⟨rfl, rfl, rfl⟩ := h
    have t1 : (s0_2 != 0) = true := bne_iff_ne.mpr h2
    clear hB hb hg hr hd0 hd1 h2
    go_enter Tryd.func137, Tryd.ntmps137
    go_wp2
    go_ret
    exact ⟨rfl, HI.out, HB.out, KeepBut.refl _ _ _⟩
  rw [if_neg (by simpa using h2)] at h
  subst h2
  obtain ⟨A1, c1, hc1, hA1, hR⟩ := deckleref03_Reader_rest.state HI.out HB.out ha
  have HR := Aside0.mk (hR 0)
  rw [Int.toNat_natCast] at h
  obtain ⟨⟨x, n, er⟩, hq, hgo⟩ := Option.bind_eq_some_iff.mp h
  have HG := Aside0.mk (fun W (hW : Below w0.heap.size w0 W) => deckleref01_GetUint.calls k A1 c1 (s0_0.drop a) x n er W (hA1 W hW) hc1 hq)
  have HBK := Aside0.mk hb
  have HGE := Aside0.mk hg.1
  rw [List.length_drop] at HG
  obtain ⟨n1, hn1⟩ : ∃ n1, s0_0.length - a = n1 := ⟨_, rfl⟩
  rw [hn1] at HG HR
  clear hB hb hg hr hd0 hd1 hc1 hA1 hR hq h hn1 hm ha
  unfold deckleref03_Reader_Uint.g at hgo
  dsimp only at hgo
  have key : ∀ m, (w.drewN m).heap[g]? = w.heap[g]? := fun m => rfl
  by_cases h0 : er = 0
  · subst h0
    rw [if_neg (by simp)] at hgo
    by_cases hlt : a1 < x
    · rw [if_pos hlt] at hgo
      simp only [Option.some.injEq, Prod.mk.injEq] at hgo
      obtain ⟨rfl, rfl, rfl⟩ := hgo
      have t1 : decide (a1 < x) = true := decide_eq_true hlt
      clear hlt key
      go_enter Tryd.func137, Tryd.ntmps137
      go_wp2_with fail
      refine HR.out.mono ?_
      rintro e w' ⟨rfl, m, rfl⟩
      go_wp2_with fail
      refine (HG.out _ (pw_below_drewN HB.out m)).mono ?_
      rintro e w' ⟨rfl, ⟨m2, rfl⟩⟩
      have hb1 : ((w.drewN m).drewN m2).heap[g]? = _ := HBK.out
      have HI1 := Aside0.mk (IsS115.drewN (IsS115.drewN HI.out m) m2)
      have HB1 := Aside0.mk (pw_below_drewN (pw_below_drewN HB.out m) m2)
      have HK1 := Aside0.mk (keep_drewN (keep_drewN (KeepBut.refl w g none) m) m2)
      obtain ⟨w1, hw1⟩ : ∃ w1, (w.drewN m).drewN m2 = w1 := ⟨_, rfl⟩
      rw [hw1] at HI1 HB1 HK1 hb1 ⊢
      have d2 : w1.cell? ⟨g, 2, none⟩ = some (.int .i64 0) := (blk_cell hb1 2).trans rfl
      have f2 := blk_frozen hb1 2
      clear hw1 c2 hb1 HBK HR HG
      go_wp2
      go_ret
      exact ⟨rfl, IsS115.set_2 HI1.out 3, below_set HB1.out (IsS115.ge HI1.out), KeepBut.set_ HK1.out 2 _⟩
    · rw [if_neg hlt] at hgo
      by_cases hn : 0 ≤ n ∧ (a : Int) + n ≤ 9223372036854775807
      case neg => rw [if_neg hn] at hgo; cases hgo
      rw [if_pos hn] at hgo
      simp only [Option.some.injEq, Prod.mk.injEq] at hgo
      obtain ⟨rfl, rfl, rfl⟩ := hgo
      have t1 : decide (a1 < x) = false := decide_eq_false hlt
      have hs : (a : Int) + n ≤ 9223372036854775807 := hn.2
      have hs0 : 0 ≤ n := hn.1
      clear hlt key hn
      go_enter Tryd.func137, Tryd.ntmps137
      go_wp2_with fail
      refine HR.out.mono ?_
      rintro e w' ⟨rfl, m, rfl⟩
      go_wp2_with fail
      refine (HG.out _ (pw_below_drewN HB.out m)).mono ?_
      rintro e w' ⟨rfl, ⟨m2, rfl⟩⟩
      have hb1 : ((w.drewN m).drewN m2).heap[g]? = _ := HBK.out
      have HI1 := Aside0.mk (IsS115.drewN (IsS115.drewN HI.out m) m2)
      have HB1 := Aside0.mk (pw_below_drewN (pw_below_drewN HB.out m) m2)
      have HK1 := Aside0.mk (keep_drewN (keep_drewN (KeepBut.refl w g none) m) m2)
      obtain ⟨w1, hw1⟩ : ∃ w1, (w.drewN m).drewN m2 = w1 := ⟨_, rfl⟩
      rw [hw1] at HI1 HB1 HK1 hb1 ⊢
      have d1 : w1.cell? ⟨g, 1, none⟩ = some (.int .i64 (a : Int)) := (blk_cell hb1 1).trans rfl
      have f1 := blk_frozen hb1 1
      clear hw1 c2 hb1 HBK HR HG
      go_wp2
      go_ret
      exact ⟨rfl, IsS115.set_1 HI1.out _, below_set HB1.out (IsS115.ge HI1.out), KeepBut.set_ HK1.out 1 _⟩
  · rw [if_pos h0] at hgo
    simp only [Option.some.injEq, Prod.mk.injEq] at hgo
    obtain ⟨rfl, rfl, rfl⟩ := hgo
    have t1 : (er == 0) = false := beq_eq_false_iff_ne.mpr h0
    have t2 : (er != 0) = true := bne_iff_ne.mpr h0
    clear h0 key
    go_enter Tryd.func137, Tryd.ntmps137
    go_wp2_with fail
    refine HR.out.mono ?_
    rintro e w' ⟨rfl, m, rfl⟩
    go_wp2_with fail
    refine (HG.out _ (pw_below_drewN HB.out m)).mono ?_
    rintro e w' ⟨rfl, ⟨m2, rfl⟩⟩
    have hb1 : ((w.drewN m).drewN m2).heap[g]? = _ := HBK.out
    have HI1 := Aside0.mk (IsS115.drewN (IsS115.drewN HI.out m) m2)
    have HB1 := Aside0.mk (pw_below_drewN (pw_below_drewN HB.out m) m2)
    have HK1 := Aside0.mk (keep_drewN (keep_drewN (KeepBut.refl w g none) m) m2)
    obtain ⟨w1, hw1⟩ : ∃ w1, (w.drewN m).drewN m2 = w1 := ⟨_, rfl⟩
    rw [hw1] at HI1 HB1 HK1 hb1 ⊢
    have d2 : w1.cell? ⟨g, 2, none⟩ = some (.int .i64 0) := (blk_cell hb1 2).trans rfl
    have f2 := blk_frozen hb1 2
    clear hw1 c2 hb1 HBK HR HG
    go_wp2
    go_ret
    exact ⟨rfl, IsS115.set_2 HI1.out _, below_set HB1.out (IsS115.ge HI1.out), KeepBut.set_ HK1.out 2 _⟩

/-! ### deckleref01_GetBytes: function 164 -/
def deckleref01_GetBytes.j0 : Nat → List Int → Int → Int → Bool → Option (List Int × Int × Int)
  | 0, _, _, _, _ => none
  | k + 1, x0, x7, x8, x26 => if x26 = true then (some (([] : List Int), 0, 13)) else (if x7 > (IntKind.u64.wrap (wrap64 ((x0.length : Int) - x8))) then (some (([] : List Int), 0, 5)) else ((some (([] : List Int) : List Int)).bind fun y112 => (if 0 ≤ x8 then (if x8 ≤ (wrap64 (x8 + (wrap64 (x7)))) then (if (wrap64 (x8 + (wrap64 (x7)))) ≤ (x0.length : Int) then (if y112.length + ((x0.take ((wrap64 (x8 + (wrap64 (x7)))) : Int).toNat).drop (x8 : Int).toNat).length < 140737488355328 then (some ((y112 ++ ((x0.take ((wrap64 (x8 + (wrap64 (x7)))) : Int).toNat).drop (x8 : Int).toNat)), wrap64 (x8 + (wrap64 (x7))), 0)) else (none)) else (none)) else (none)) else (none))))
def deckleref01_GetBytes.f (k : Nat) (l0 : List Int) (a1 : Int) : Option (List Int × Int × Int) := (deckleref01_GetUint.f k l0).bind fun bt109 => (if bt109.2.2 = 0 then (if a1 < 0 then (deckleref01_GetBytes.j0 k l0 bt109.1 bt109.2.1 true) else (deckleref01_GetBytes.j0 k l0 bt109.1 bt109.2.1 (decide (bt109.1 > (IntKind.u64.wrap (a1)))))) else (some (([] : List Int), 0, bt109.2.2)))
theorem deckleref01_GetBytes.mono_l : ∀ k, (∀ y0 y1 y2 y3, LeO (deckleref01_GetBytes.j0 k y0 y1 y2 y3) (deckleref01_GetBytes.j0 (k + 1) y0 y1 y2 y3))
  | 0 => fun _ _ _ _ r h => by simp [deckleref01_GetBytes.j0] at h
  | k + 1 => by
    have ih0 := deckleref01_GetBytes.mono_l k
    · intro y0 y1 y2 y3
      unfold deckleref01_GetBytes.j0
      repeat' first
      | (with_reducible exact ih0 _ _ _ _)
      | (with_reducible exact deckleref01_GetUint.mono _ _)
      | (with_reducible exact LeO.refl _)
      | (with_reducible exact LeO.none _)
      | (with_reducible refine LeO.ite ?_ ?_)
      | (with_reducible refine LeO.bind ?_ (fun _ => ?_))
      | exact ih0 _ _ _ _
      | exact deckleref01_GetUint.mono _ _
      | exact LeO.none _
      | refine LeO.ite ?_ ?_
      | refine LeO.bind ?_ (fun _ => ?_)
theorem deckleref01_GetBytes.mono : ∀ a0 a1 k, LeO (deckleref01_GetBytes.f k a0 a1) (deckleref01_GetBytes.f (k + 1) a0 a1) := by
  intro a0 a1 k
  have ih0 := deckleref01_GetBytes.mono_l k
  unfold deckleref01_GetBytes.f
  repeat' first
      | (with_reducible exact ih0 _ _ _ _)
      | (with_reducible exact deckleref01_GetUint.mono _ _)
      | (with_reducible exact LeO.refl _)
      | (with_reducible exact LeO.none _)
      | (with_reducible refine LeO.ite ?_ ?_)
      | (with_reducible refine LeO.bind ?_ (fun _ => ?_))
      | exact ih0 _ _ _ _
      | exact deckleref01_GetUint.mono _ _
      | exact LeO.none _
      | refine LeO.ite ?_ ?_
      | refine LeO.bind ?_ (fun _ => ?_)
set_option maxHeartbeats 8000000 in
set_option maxRecDepth 100000 in
theorem deckleref01_GetBytes.calls (k : Nat) (A0 : Option Addr) (c0 : Nat) (l0 : List Int) (a1 : Int) (r1 : List Int) (r2 : Int) (r3 : Int) (w : World) (hr0 : Kd.C (Kd.int .u8) w A0 l0.length l0) (hc0 : l0.length ≤ c0) (h : deckleref01_GetBytes.f k l0 a1 = some (r1, r2, r3)) :
    Calls Tryd.prog 164 #[.slice A0 l0.length c0, .int .i64 a1] w fun e w' => ∃ v0_ : Value, e = .returned (.tuple #[v0_, .int .i64 r2, .int .i64 r3]) ∧ Kd.R (Kd.int .u8) 5 w' w.heap.size (fun _ => True) v0_ r1 ∧ Below w.heap.size w w' := by
  have HR0 := Aside0.mk hr0
  have HC0 := Aside0.mk hc0
  clear hr0 hc0
  have HB := Aside0.mk (Below.refl w.heap.size w)
  have H : ((deckleref01_GetUint.f k l0).bind fun bt109 => (if bt109.2.2 = 0 then (if a1 < 0 then (deckleref01_GetBytes.j0 k l0 bt109.1 bt109.2.1 true) else (deckleref01_GetBytes.j0 k l0 bt109.1 bt109.2.1 (decide (bt109.1 > (IntKind.u64.wrap (a1)))))) else (some (([] : List Int), 0, bt109.2.2)))) = some (r1, r2, r3) := h
  clear h
  replace H := Option.bind_eq_some_iff.mp H
  obtain ⟨⟨t109, t110, t111⟩, A30, H⟩ := H
  replace H : (if t111 = 0 then (if a1 < 0 then (deckleref01_GetBytes.j0 k l0 t109 t110 true) else (deckleref01_GetBytes.j0 k l0 t109 t110 (decide (t109 > (IntKind.u64.wrap (a1)))))) else (some (([] : List Int), 0, t111))) = some (r1, r2, r3) := H
  have A3 := Aside0.mk A30
  clear A30
  by_cases c4 : t111 = 0
  · rw [if_pos c4] at H
    have c4b0 : (t111 == 0) = true := beq_iff_eq.mpr c4
    have c4b1 : (t111 != 0) = false := bne_eq_false_iff_eq.mpr c4
    clear c4
    have HC5 := Aside0.mk H
    clear H
    go_enter Tryd.func164, Tryd.ntmps164
    go_upto_region 4 with (first | ((with_reducible refine gate_callee (f := 163) rfl ?_); refine goesL_ (some 12) rfl rfl Tryd.func163 (by kernel_rfl) rfl #[.slice A0 l0.length c0] rfl (by (try simp only [List.map_toArray, List.map_cons, List.map_nil]); first | done | rfl | (simp only [List.length_drop, List.length_take]; rfl)) ?_; (with_reducible refine (deckleref01_GetUint.calls k _ _ l0 t109 t110 t111 _ ?side1 ?side2 A3.out).mono ?_); (case side1 => repeat (first | exact HR0.out | (with_reducible refine Kd.C_alloc ?_ _) | (with_reducible refine Kd.C_drewN ?_ _) | (with_reducible refine Kd.C_drew ?_))); (case side2 => exact HC0.out); rintro e w' ⟨rfl, ⟨nd, rfl⟩⟩; refine ⟨_, rfl, ?_⟩))
    (try simp only [Act.put, List.setIfInBounds_toArray, List.set_cons_zero, List.set_cons_succ])
    go_cut [26] (fun v26 wc => ∃ (kq : Nat) (x26_4 : Bool), v26 = .bool x26_4 ∧ Aside0 (deckleref01_GetBytes.j0 kq l0 t109 t110 x26_4 = some (r1, r2, r3)) ∧ Aside0 (kq ≤ k) ∧ Aside0 (Below w.heap.size w wc))
    case first =>
      have H := HC5.out
      clear HC5
      by_cases c6 : a1 < 0
      · rw [if_pos c6] at H
        have c6b0 : decide (a1 < 0) = true := decide_eq_true c6
        clear c6
        (first | rw [c6b0] | (simp only [i64_w, i32_w]; rw [c6b0]) | skip)
        have H' := Aside0.mk H
        clear H
        go_wp2
        go_meet
        case rel => exact ⟨_, (true), (by first | rfl | (simp; done) | (simp [*]; done)), H', ⟨by first | omega | exact Nat.le_refl _⟩, ⟨by repeat (first | (with_reducible first | exact HB.out | apply below_alloc | apply pw_below_drewN | apply below_drew1) | exact HB.out)⟩⟩
      · rw [if_neg c6] at H
        have c6b0 : decide (a1 < 0) = false := decide_eq_false c6
        clear c6
        (first | rw [c6b0] | (simp only [i64_w, i32_w]; rw [c6b0]) | skip)
        have H' := Aside0.mk H
        clear H
        go_wp2
        go_meet
        case rel => exact ⟨_, (decide (t109 > (IntKind.u64.wrap (a1)))), (by first | rfl | (simp; done) | (simp [*]; done)), H', ⟨by first | omega | exact Nat.le_refl _⟩, ⟨by repeat (first | (with_reducible first | exact HB.out | apply below_alloc | apply pw_below_drewN | apply below_drew1) | exact HB.out)⟩⟩
    case rest =>
      clear HC5
      try clear c1
      try clear p2
      try clear c4
      try clear c4b0
      try clear c4b1
      try clear c6
      try clear c6b0
      obtain ⟨kq, x26_4, rfl, HA, HJ4, HB⟩ := hcut
      cases kq with
      | zero => exact absurd HA.out (by simp [deckleref01_GetBytes.j0])
      | succ kj4 =>
        have H := HA.out
        clear HA
        simp only [deckleref01_GetBytes.j0] at H
        by_cases c7 : x26_4 = true
        · subst c7
          have H1 : (some (([] : List Int), 0, 13)) = some (r1, r2, r3) := by rw [if_pos rfl] at H; exact H
          clear H
          have H := H1
          clear H1
          simp only [Option.some.injEq, Prod.mk.injEq] at H
          obtain ⟨rfl, rfl, rfl⟩ := H
          go_wp2
          go_ret3
          exact ⟨_, by first | rfl | (simp [errW_none, errW_some] <;> rfl) | (simp [*, errW_none, errW_some] <;> rfl), by first | exact Kd.R_nil _ _ _ _ _ | exact Kd.N_nil _ _ _ _ _ | exact Kd.V_nil _ _ _ _ _ | exact Kd.Q_nil _ _ _ _ _ | exact Kd.S_nil _ _ _ _ _, by repeat (first | (with_reducible first | exact HB.out | apply below_alloc | apply pw_below_drewN | apply below_drew1) | exact HB.out)⟩
        · replace c7 := Bool.eq_false_iff.mpr c7
          subst c7
          have H1 : (if t109 > (IntKind.u64.wrap (wrap64 ((l0.length : Int) - t110))) then (some (([] : List Int), 0, 5)) else ((some (([] : List Int) : List Int)).bind fun y112 => (if 0 ≤ t110 then (if t110 ≤ (wrap64 (t110 + (wrap64 (t109)))) then (if (wrap64 (t110 + (wrap64 (t109)))) ≤ (l0.length : Int) then (if y112.length + ((l0.take ((wrap64 (t110 + (wrap64 (t109)))) : Int).toNat).drop (t110 : Int).toNat).length < 140737488355328 then (some ((y112 ++ ((l0.take ((wrap64 (t110 + (wrap64 (t109)))) : Int).toNat).drop (t110 : Int).toNat)), wrap64 (t110 + (wrap64 (t109))), 0)) else (none)) else (none)) else (none)) else (none)))) = some (r1, r2, r3) := by rw [if_neg (show ¬ (false = true) by decide)] at H; exact H
          clear H
          have H := H1
          clear H1
          by_cases c8 : t109 > (IntKind.u64.wrap (wrap64 ((l0.length : Int) - t110)))
          · rw [if_pos c8] at H
            have c8b0 : decide ((IntKind.u64.wrap (wrap64 ((l0.length : Int) - t110))) < t109) = true := decide_eq_true c8
            clear c8
            simp only [Option.some.injEq, Prod.mk.injEq] at H
            obtain ⟨rfl, rfl, rfl⟩ := H
            go_wp2
            go_ret3
            exact ⟨_, by first | rfl | (simp [errW_none, errW_some] <;> rfl) | (simp [*, errW_none, errW_some] <;> rfl), by first | exact Kd.R_nil _ _ _ _ _ | exact Kd.N_nil _ _ _ _ _ | exact Kd.V_nil _ _ _ _ _ | exact Kd.Q_nil _ _ _ _ _ | exact Kd.S_nil _ _ _ _ _, by repeat (first | (with_reducible first | exact HB.out | apply below_alloc | apply pw_below_drewN | apply below_drew1) | exact HB.out)⟩
          · rw [if_neg c8] at H
            have c8b0 : decide ((IntKind.u64.wrap (wrap64 ((l0.length : Int) - t110))) < t109) = false := decide_eq_false c8
            clear c8
            obtain ⟨y112, hy112⟩ : ∃ y_ : List Int, y_ = (([] : List Int)) := ⟨_, rfl⟩
            replace H : (if 0 ≤ t110 then (if t110 ≤ (wrap64 (t110 + (wrap64 (t109)))) then (if (wrap64 (t110 + (wrap64 (t109)))) ≤ (l0.length : Int) then (if y112.length + ((l0.take ((wrap64 (t110 + (wrap64 (t109)))) : Int).toNat).drop (t110 : Int).toNat).length < 140737488355328 then (some ((y112 ++ ((l0.take ((wrap64 (t110 + (wrap64 (t109)))) : Int).toNat).drop (t110 : Int).toNat)), wrap64 (t110 + (wrap64 (t109))), 0)) else (none)) else (none)) else (none)) else (none)) = some (r1, r2, r3) := by first | (rw [hy112]; with_reducible exact H) | (have H2_ := (Option.bind_some _ _).symm.trans H; rw [hy112]; with_reducible exact H2_) | (have H2_ := (Option.bind_some _ _).symm.trans H; with_reducible exact H2_) | with_reducible exact H | (rw [hy112]; exact H) | exact H
            have Ny112 := Aside0.mk hy112
            clear hy112
            by_cases c9 : 0 ≤ t110
            · rw [if_pos c9] at H
              have c9b0 := eq_true c9
              have c9b1 : decide (0 ≤ t110) = true := decide_eq_true c9
              clear c9
              by_cases c10 : t110 ≤ (wrap64 (t110 + (wrap64 (t109))))
              · rw [if_pos c10] at H
                have c10b0 := eq_true c10
                have c10b1 : decide (t110 ≤ (wrap64 (t110 + (wrap64 (t109))))) = true := decide_eq_true c10
                by_cases c11 : (wrap64 (t110 + (wrap64 (t109)))) ≤ (l0.length : Int)
                · rw [if_pos c11] at H
                  have c11b0 := eq_true c11
                  have c11b1 : decide ((wrap64 (t110 + (wrap64 (t109)))) ≤ (l0.length : Int)) = true := decide_eq_true c11
                  by_cases c12 : y112.length + ((l0.take ((wrap64 (t110 + (wrap64 (t109)))) : Int).toNat).drop (t110 : Int).toNat).length < 140737488355328
                  · rw [if_pos c12] at H
                    have LMc12 := Aside0.mk c12
                    clear c12
                    obtain ⟨y116, hy116⟩ : ∃ y_ : List Int, y_ = (y112 ++ ((l0.take ((wrap64 (t110 + (wrap64 (t109)))) : Int).toNat).drop (t110 : Int).toNat)) := ⟨_, rfl⟩
                    replace H : (some (y116, wrap64 (t110 + (wrap64 (t109))), 0)) = some (r1, r2, r3) := by first | (rw [hy116]; with_reducible exact H) | (have H2_ := (Option.bind_some _ _).symm.trans H; rw [hy116]; with_reducible exact H2_) | (have H2_ := (Option.bind_some _ _).symm.trans H; with_reducible exact H2_) | with_reducible exact H | (rw [hy116]; exact H) | exact H
                    have Ny116 := Aside0.mk hy116
                    clear hy116
                    simp only [Option.some.injEq, Prod.mk.injEq] at H
                    obtain ⟨rfl, rfl, rfl⟩ := H
                    go_wp2_with (first | ((with_reducible refine gate_dst (N := 34) rfl ?_); refine Kd.R_lit (Kd.int .u8) _ 5 ?hg (N := 34) ?hd (xs := ([] : List Int)) (inner := []) (ok := fun _ => True) (okp := fun _ => True) ?hr ?hp (fun _ hk => hk) trivial (Below.refl _ _) (Nat.le_refl _) (by simp) ?_; (case hd => rfl); (case hg => rfl); (case hr => first | (go_simp; done) | (go_simp; rfl)); (case hp => exact (Reps.none _ _)); intro v113 w13 ho14 hb hg_ hnew_; clear hg_ hnew_; (first | rw [← Ny112.out] at ho14 | (simp only [Int.reduceToNat] at ho14; rw [← Ny112.out] at ho14)); have n0_ := Aside0.mk (Kd.R_lower ho14 (below_size (by repeat (first | (with_reducible first | exact HB.out | apply below_alloc | apply pw_below_drewN | apply below_drew1) | exact HB.out)))); have n1_ := Aside0.mk (below_step (by repeat (first | (with_reducible first | exact HB.out | apply below_alloc | apply pw_below_drewN | apply below_drew1) | exact HB.out)) hb); clear HB; have HO114 := n0_; have HB := n1_; clear n0_ n1_; clear hb ho14; obtain ⟨i0115s, hi0115s, _, hsz115s, _⟩ := info_parts info5; obtain ⟨A115s, hcut115s, hA115s, hC115s⟩ := print_mid_of (P := Tryd.prog) (Value.int .u8) 0 25 5 .i64 .i64 Tryd.underlying25 hi0115s hsz115s A0 c0 l0 t110 (wrap64 (t110 + (wrap64 (t109)))) (of_decide_eq_true (by first | (with_reducible assumption) | assumption)) (by first | omega | exact of_decide_eq_true (by first | (with_reducible assumption) | assumption)) (of_decide_eq_true (by first | (with_reducible assumption) | assumption)) HC0.out; have HR115 := Aside0.mk (Kd.C_of_reads (h1 := fun _ => rfl) (hA115s _ (Kd.reads_of_C HR0.out))); have HC115 := Aside0.mk hC115s; clear hA115s hC115s hi0115s hsz115s) | ((with_reducible refine gate_builtin (b := .append) (xs := #[.tmp 34, .tmp 41]) rfl ?_); at_builtin; refine Kd.R_append_rows (Kd.int .u8) (w0 := w) w.heap.size rfl (.tmp 34) (.tmp 41) 25 5 (.int .u8 0) 1 rfl Tryd.underlying25 info5 rfl (by decide) (by omega) v113 y112 ((l0.take ((wrap64 (t110 + (wrap64 (t109)))) : Int).toNat).drop (t110 : Int).toNat) _ _ _ (fun _ => True) (fun _ => False) rfl rfl ?aO ?aR (fun _ _ h => h) (fun _ h => h.elim) ?aF ?aB ?aS ?aL ?_; (case aR => first | (refine Eq.mp (congrArg (fun n_ => ReadsRow _ _ _ _ n_ _) (show ((l0.take ((wrap64 (t110 + (wrap64 (t109)))) : Int).toNat).drop (t110 : Int).toNat).length = ((wrap64 (t110 + (wrap64 (t109)))).toNat - t110.toNat) from (by rw [List.length_drop, List.length_take]; have h_ : ((wrap64 (t110 + (wrap64 (t109)))) : Int) ≤ (l0.length : Int) := of_decide_eq_true (by first | (with_reducible assumption) | assumption); omega))) ?_; repeat (first | exact (Kd.C_below HR115.out HB.out) | (with_reducible refine Kd.C_alloc ?_ _) | (with_reducible refine Kd.C_drewN ?_ _) | (with_reducible refine Kd.C_drew ?_)); done) | (rw [← show ((l0.take ((wrap64 (t110 + (wrap64 (t109)))) : Int).toNat).drop (t110 : Int).toNat).length = ((wrap64 (t110 + (wrap64 (t109)))).toNat - t110.toNat) from (by rw [List.length_drop, List.length_take]; have h_ : ((wrap64 (t110 + (wrap64 (t109)))) : Int) ≤ (l0.length : Int) := of_decide_eq_true (by first | (with_reducible assumption) | assumption); omega)]; repeat (first | exact (Kd.C_below HR115.out HB.out) | (with_reducible refine Kd.C_alloc ?_ _) | (with_reducible refine Kd.C_drewN ?_ _) | (with_reducible refine Kd.C_drew ?_))) | (repeat (first | exact (Kd.C_below HR115.out HB.out) | (with_reducible refine Kd.C_alloc ?_ _) | (with_reducible refine Kd.C_drewN ?_ _) | (with_reducible refine Kd.C_drew ?_)))); (case aB => exact (by repeat (first | (with_reducible first | exact HB.out | apply below_alloc | apply pw_below_drewN | apply below_drew1) | exact HB.out))); (case aF => exact (fun _ _ => trivial)); (case aO => exact (by (with_reducible repeat (first | apply Kd.R_alloc | apply Kd.R_drewN | apply Kd.R_drew)); exact HO114.out)); (case aS => exact (below_size (by repeat (first | (with_reducible first | exact HB.out | apply below_alloc | apply pw_below_drewN | apply below_drew1) | exact HB.out)))); (case aL => have := LMc12.out; have hlx_ := (show ((l0.take ((wrap64 (t110 + (wrap64 (t109)))) : Int).toNat).drop (t110 : Int).toNat).length = ((wrap64 (t110 + (wrap64 (t109)))).toNat - t110.toNat) from (by rw [List.length_drop, List.length_take]; have h_ : ((wrap64 (t110 + (wrap64 (t109)))) : Int) ≤ (l0.length : Int) := of_decide_eq_true (by first | (with_reducible assumption) | assumption); omega)); omega); intro v117 w16 ho hb hg hat; rw [← Ny116.out] at ho; have n0_ := Aside0.mk (hb); have n1_ := Aside0.mk (ho); clear HB; clear HO114; have HB := n0_; have HO118 := n1_; clear n0_ n1_; clear ho hb hg hat))
                    go_ret3
                    exact ⟨_, by first | rfl | (simp [errW_none, errW_some] <;> rfl) | (simp [*, errW_none, errW_some] <;> rfl), by (with_reducible repeat (first | apply Kd.R_alloc | apply Kd.R_drewN | apply Kd.R_drew)); exact HO118.out, by repeat (first | (with_reducible first | exact HB.out | apply below_alloc | apply pw_below_drewN | apply below_drew1) | exact HB.out)⟩
                  · rw [if_neg c12] at H
                    exact absurd H (by simp)
                · rw [if_neg c11] at H
                  exact absurd H (by simp)
              · rw [if_neg c10] at H
                exact absurd H (by simp)
            · rw [if_neg c9] at H
              exact absurd H (by simp)
  · rw [if_neg c4] at H
    have c4b0 : (t111 == 0) = false := beq_eq_false_iff_ne.mpr c4
    have c4b1 : (t111 != 0) = true := bne_iff_ne.mpr c4
    simp only [Option.some.injEq, Prod.mk.injEq] at H
    obtain ⟨rfl, rfl, rfl⟩ := H
    go_enter Tryd.func164, Tryd.ntmps164
    go_wp2_with (first | ((with_reducible refine gate_callee (f := 163) rfl ?_); refine goesL_ (some 12) rfl rfl Tryd.func163 (by kernel_rfl) rfl #[.slice A0 l0.length c0] rfl (by (try simp only [List.map_toArray, List.map_cons, List.map_nil]); first | done | rfl | (simp only [List.length_drop, List.length_take]; rfl)) ?_; (with_reducible refine (deckleref01_GetUint.calls k _ _ l0 t109 t110 t111 _ ?side1 ?side2 A3.out).mono ?_); (case side1 => repeat (first | exact HR0.out | (with_reducible refine Kd.C_alloc ?_ _) | (with_reducible refine Kd.C_drewN ?_ _) | (with_reducible refine Kd.C_drew ?_))); (case side2 => exact HC0.out); rintro e w' ⟨rfl, ⟨nd, rfl⟩⟩; refine ⟨_, rfl, ?_⟩))
    go_ret3
    exact ⟨_, by first | rfl | (simp [errW_none, errW_some] <;> rfl) | (simp [*, errW_none, errW_some] <;> rfl), by first | exact Kd.R_nil _ _ _ _ _ | exact Kd.N_nil _ _ _ _ _ | exact Kd.V_nil _ _ _ _ _ | exact Kd.Q_nil _ _ _ _ _ | exact Kd.S_nil _ _ _ _ _, by repeat (first | (with_reducible first | exact HB.out | apply below_alloc | apply pw_below_drewN | apply below_drew1) | exact HB.out)⟩

/-! ### deckleref03_Reader_Bytes: function 138 -/
def deckleref03_Reader_Bytes.g (s0_1 : Int) (q : List Int × Int × Int) : Option (List Int × Int × Int) :=
  if q.2.2 ≠ 0 then some ([], s0_1, q.2.2) else if 0 ≤ q.2.1 ∧ s0_1 + q.2.1 ≤ 9223372036854775807 then some (q.1, s0_1 + q.2.1, 0) else none
def deckleref03_Reader_Bytes.f (k : Nat) (s0_0 : List Int) (s0_1 s0_2 : Int) (a1 : Int) : Option (List Int × Int × Int) :=
  if 0 ≤ s0_1 ∧ s0_1 ≤ s0_0.length then (if s0_2 ≠ 0 then some ([], s0_1, s0_2) else (deckleref01_GetBytes.f k (s0_0.drop s0_1.toNat) a1).bind fun q => deckleref03_Reader_Bytes.g s0_1 q) else none
theorem deckleref03_Reader_Bytes.mono : ∀ s0_0 s0_1 s0_2 a1 k, LeO (deckleref03_Reader_Bytes.f k s0_0 s0_1 s0_2 a1) (deckleref03_Reader_Bytes.f (k + 1) s0_0 s0_1 s0_2 a1) := by
  intro s0_0 s0_1 s0_2 a1 k
  unfold deckleref03_Reader_Bytes.f
  exact LeO.ite (LeO.ite (LeO.refl _) (LeO.bind (deckleref01_GetBytes.mono _ _ k) (fun _ => LeO.refl _))) (LeO.refl _)
set_option maxHeartbeats 4000000 in
set_option maxRecDepth 100000 in
theorem deckleref03_Reader_Bytes.calls (k : Nat) (g : Nat) (s0_0 : List Int) (s0_1 : Int) (s0_2 : Int) (a1 : Int) (r1 : List Int) (r2 r3 : Int) (w0 w : World) (hI : IsS115 w0 w g s0_0 s0_1 s0_2) (hB : Below w0.heap.size w0 w) (h : deckleref03_Reader_Bytes.f k s0_0 s0_1 s0_2 a1 = some (r1, r2, r3)) :
    Calls Tryd.prog 138 #[.pointer (some ⟨g, 0, none⟩), .int .i64 a1] w fun e w' => ∃ v0_ : Value, e = .returned v0_ ∧ Kd.R (Kd.int .u8) 5 w' w.heap.size (fun _ => True) v0_ r1 ∧ IsS115 w0 w' g s0_0 r2 r3 ∧ Below w0.heap.size w0 w' ∧ KeepBut w w' g none := by
  unfold deckleref03_Reader_Bytes.f at h
  by_cases hd : 0 ≤ s0_1 ∧ s0_1 ≤ s0_0.length
  case neg => rw [if_neg hd] at h; cases h
  rw [if_pos hd] at h
  obtain ⟨hd0, hd1⟩ := hd
  obtain ⟨a, rfl⟩ := Int.eq_ofNat_of_zero_le hd0
  have ha : a ≤ s0_0.length := by omega
  have HI := Aside0.mk hI
  have HB := Aside0.mk hB
  obtain ⟨A, c, hb, hg, hr⟩ := hI
  have c2 : w.cell? ⟨g, 2, none⟩ = some (.int .i64 s0_2) := (blk_cell hb 2).trans rfl
  have hm := hr.2.1
  by_cases h2 : s0_2 = 0
  case neg =>
    rw [if_pos h2] at h
    simp only [Option.some.injEq, Prod.mk.injEq] at h
    obtain ⟨rfl, rfl, rfl⟩ := h
    have t1 : (s0_2 != 0) = true := bne_iff_ne.mpr h2
    clear hB hb hg hr hd0 hd1 h2
    go_enter Tryd.func138, Tryd.ntmps138
    go_wp2
    go_ret
    exact ⟨_, rfl, Kd.R_nil _ _ _ _ _, HI.out, HB.out, KeepBut.refl _ _ _⟩
  rw [if_neg (by simpa using h2)] at h
  subst h2
  obtain ⟨A1, c1, hc1, hA1, hR⟩ := deckleref03_Reader_rest.state HI.out HB.out ha
  have HR := Aside0.mk (hR 0)
  rw [Int.toNat_natCast] at h
  obtain ⟨⟨x, n, er⟩, hq, hgo⟩ := Option.bind_eq_some_iff.mp h
  have HG := Aside0.mk (fun W (hW : Below w0.heap.size w0 W) => deckleref01_GetBytes.calls k A1 c1 (s0_0.drop a) a1 x n er W (hA1 W hW) hc1 hq)
  rw [List.length_drop] at HG
  obtain ⟨n1, hn1⟩ : ∃ n1, s0_0.length - a = n1 := ⟨_, rfl⟩
  rw [hn1] at HG HR
  clear hB hb hg hr hd0 hd1 hc1 hA1 hR hq h hn1 hm ha
  unfold deckleref03_Reader_Bytes.g at hgo
  dsimp only at hgo
  by_cases h0 : er = 0
  · subst h0
    rw [if_neg (by simp)] at hgo
    by_cases hn : 0 ≤ n ∧ (a : Int) + n ≤ 9223372036854775807
    case neg => rw [if_neg hn] at hgo; cases hgo
    rw [if_pos hn] at hgo
    simp only [Option.some.injEq, Prod.mk.injEq] at hgo
    obtain ⟨rfl, rfl, rfl⟩ := hgo
    have hs : (a : Int) + n ≤ 9223372036854775807 := hn.2
    have hs0 : 0 ≤ n := hn.1
    clear hn
    go_enter Tryd.func138, Tryd.ntmps138
    go_wp2_with fail
    refine HR.out.mono ?_
    rintro e w' ⟨rfl, m, rfl⟩
    go_wp2_with fail
    refine (HG.out _ (pw_below_drewN HB.out m)).mono ?_
    rintro e w1 ⟨v, rfl, hv, b1⟩
    have HV := Aside0.mk (show Kd.R (Kd.int .u8) 5 w1 w.heap.size (fun _ => True) v x from hv)
    have HI1 := Aside0.mk (IsS115.below (IsS115.drewN HI.out m) b1)
    have HB1 := Aside0.mk (below_step (pw_below_drewN HB.out m) b1)
    have HK1 := Aside0.mk (KeepBut.trans (keep_drewN (KeepBut.refl w g none) m) (KeepBut.of_below b1 g none) (.inl rfl))
    obtain ⟨A', c', hb1, hg1, -⟩ := HI1.out
    have d1 : w1.cell? ⟨g, 1, none⟩ = some (.int .i64 (a : Int)) := (blk_cell hb1 1).trans rfl
    have f1 := blk_frozen hb1 1
    have HIA := Aside0.mk (IsS115.apart HI1.out HV.out (by decide))
    clear c2 hb1 hg1 HR HG hv b1
    go_wp2
    go_ret
    exact ⟨_, rfl, Kd.R_mono (Kd.R_far HIA.out (p := ⟨g, 1, none⟩) (fun k hk => hk.2) _) (fun _ _ => trivial), IsS115.set_1 HI1.out _, below_set HB1.out (IsS115.ge HI1.out), KeepBut.set_ HK1.out 1 _⟩
  · rw [if_pos h0] at hgo
    simp only [Option.some.injEq, Prod.mk.injEq] at hgo
    obtain ⟨rfl, rfl, rfl⟩ := hgo
    have t1 : (er == 0) = false := beq_eq_false_iff_ne.mpr h0
    have t2 : (er != 0) = true := bne_iff_ne.mpr h0
    clear h0
    go_enter Tryd.func138, Tryd.ntmps138
    go_wp2_with fail
    refine HR.out.mono ?_
    rintro e w' ⟨rfl, m, rfl⟩
    go_wp2_with fail
    refine (HG.out _ (pw_below_drewN HB.out m)).mono ?_
    rintro e w1 ⟨v, rfl, hv, b1⟩
    have HI1 := Aside0.mk (IsS115.below (IsS115.drewN HI.out m) b1)
    have HB1 := Aside0.mk (below_step (pw_below_drewN HB.out m) b1)
    have HK1 := Aside0.mk (KeepBut.trans (keep_drewN (KeepBut.refl w g none) m) (KeepBut.of_below b1 g none) (.inl rfl))
    obtain ⟨A', c', hb1, hg1, -⟩ := HI1.out
    have d2 : w1.cell? ⟨g, 2, none⟩ = some (.int .i64 0) := (blk_cell hb1 2).trans rfl
    have f2 := blk_frozen hb1 2
    clear c2 hb1 hg1 HR HG hv b1
    go_wp2
    go_ret
    exact ⟨_, rfl, Kd.R_nil _ _ _ _ _, IsS115.set_2 HI1.out _, below_set HB1.out (IsS115.ge HI1.out), KeepBut.set_ HK1.out 2 _⟩

/-! ### deckleref01_Zag: function 171 -/
def deckleref01_Zag.f (a0 : Int) : Option (Int) := if (Int.tmod a0 2) = 0 then (some (wrap64 (IntKind.u64.wrap (Int.tdiv a0 2)))) else (some (wrap64 ((wrap64 (-(wrap64 (IntKind.u64.wrap (Int.tdiv a0 2))))) - 1)))
set_option maxHeartbeats 8000000 in
set_option maxRecDepth 100000 in
theorem deckleref01_Zag.calls (a0 : Int) (r : Int) (w : World) (h : deckleref01_Zag.f a0 = some r) :
    Calls Tryd.prog 171 #[.int .u64 a0] w fun e w' => e = .returned (.int .i64 r) ∧ Drawn0 w w' := by
  have H : (if (Int.tmod a0 2) = 0 then (some (wrap64 (IntKind.u64.wrap (Int.tdiv a0 2)))) else (some (wrap64 ((wrap64 (-(wrap64 (IntKind.u64.wrap (Int.tdiv a0 2))))) - 1)))) = some r := h
  clear h
  by_cases c2 : (Int.tmod a0 2) = 0
  · rw [if_pos c2] at H
    have c2b0 : ((Int.tmod a0 2) == 0) = true := beq_iff_eq.mpr c2
    have c2b1 : ((Int.tmod a0 2) != 0) = false := bne_eq_false_iff_eq.mpr c2
    clear c2
    obtain rfl := Option.some.inj H
    go_enter Tryd.func171, Tryd.ntmps171
    go_wp2
    go_ret
    exact ⟨by first | rfl | (simp; done) | (simp [*]; done), by repeat (first | exact Drawn0.refl _ | apply Drawn0.step)⟩
  · rw [if_neg c2] at H
    have c2b0 : ((Int.tmod a0 2) == 0) = false := beq_eq_false_iff_ne.mpr c2
    have c2b1 : ((Int.tmod a0 2) != 0) = true := bne_iff_ne.mpr c2
    obtain rfl := Option.some.inj H
    go_enter Tryd.func171, Tryd.ntmps171
    go_wp2
    go_ret
    exact ⟨by first | rfl | (simp; done) | (simp [*]; done), by repeat (first | exact Drawn0.refl _ | apply Drawn0.step)⟩

/-! ### deckleref03_Reader_Int: function 144 -/
def deckleref03_Reader_Int.f (k : Nat) (s0_0 : List Int) (s0_1 : Int) (s0_2 : Int) : Option (Int × Int × Int) := (deckleref03_Reader_Uint.f k s0_0 s0_1 s0_2 18446744073709551615).bind fun bt119 => ((deckleref01_Zag.f bt119.1).bind fun t122 => (some (t122, bt119.2.1, bt119.2.2)))
theorem deckleref03_Reader_Int.mono : ∀ a0 a1 a2 k, LeO (deckleref03_Reader_Int.f k a0 a1 a2) (deckleref03_Reader_Int.f (k + 1) a0 a1 a2) := by
  intro a0 a1 a2 k
  unfold deckleref03_Reader_Int.f
  repeat' first
      | (with_reducible exact deckleref03_Reader_Uint.mono _ _ _ _ _)
      | (with_reducible exact LeO.refl _)
      | (with_reducible exact LeO.none _)
      | (with_reducible refine LeO.ite ?_ ?_)
      | (with_reducible refine LeO.bind ?_ (fun _ => ?_))
      | exact deckleref03_Reader_Uint.mono _ _ _ _ _
      | exact LeO.none _
      | refine LeO.ite ?_ ?_
      | refine LeO.bind ?_ (fun _ => ?_)
set_option maxHeartbeats 8000000 in
set_option maxRecDepth 100000 in
theorem deckleref03_Reader_Int.calls (k : Nat) (g : Nat) (s0_0 : List Int) (s0_1 : Int) (s0_2 : Int) (r1 : Int) (r2 : Int) (r3 : Int) (w0 w : World) (hI : IsS115 w0 w g s0_0 s0_1 s0_2) (hB : Below w0.heap.size w0 w) (h : deckleref03_Reader_Int.f k s0_0 s0_1 s0_2 = some (r1, r2, r3)) :
    Calls Tryd.prog 144 #[.pointer (some ⟨g, 0, none⟩)] w fun e w' => e = .returned (.int .i64 r1) ∧ IsS115 w0 w' g s0_0 r2 r3 ∧ Below w0.heap.size w0 w' ∧ KeepBut w w' g none := by
  have HI0 := Aside0.mk hI
  have HK := Aside0.mk (KeepBut.refl w g none)
  have HL := Aside0.mk hB.size
  clear hI
  have HW0 := Aside0.mk hB.size
  have HB := Aside0.mk hB
  clear hB
  have H : ((deckleref03_Reader_Uint.f k s0_0 s0_1 s0_2 18446744073709551615).bind fun bt119 => ((deckleref01_Zag.f bt119.1).bind fun t122 => (some (t122, bt119.2.1, bt119.2.2)))) = some (r1, r2, r3) := h
  clear h
  replace H := Option.bind_eq_some_iff.mp H
  obtain ⟨⟨t119, t120, t121⟩, A20, H⟩ := H
  replace H : ((deckleref01_Zag.f t119).bind fun t122 => (some (t122, t120, t121))) = some (r1, r2, r3) := H
  have A2 := Aside0.mk A20
  clear A20
  replace H := Option.bind_eq_some_iff.mp H
  obtain ⟨t122, A30, H⟩ := H
  replace H : (some (t122, t120, t121)) = some (r1, r2, r3) := H
  have A3 := Aside0.mk A30
  clear A30
  simp only [Option.some.injEq, Prod.mk.injEq] at H
  obtain ⟨rfl, rfl, rfl⟩ := H
  go_enter Tryd.func144, Tryd.ntmps144
  go_wp2_with (first | ((with_reducible refine gate_callee (f := 137) rfl ?_); refine goesL_ (some 5) rfl rfl Tryd.func137 (by kernel_rfl) rfl #[.pointer (some ⟨g, 0, none⟩), .int .u64 18446744073709551615] rfl (by (try simp only [List.map_toArray, List.map_cons, List.map_nil]); first | done | rfl | (simp only [List.length_drop, List.length_take]; rfl)) ?_; (with_reducible refine (deckleref03_Reader_Uint.calls k g s0_0 s0_1 s0_2 18446744073709551615 t119 t120 t121 w0 _ ?side1 ?side2 A2.out).mono ?_); (case side1 => repeat (first | (with_reducible first | exact HI0.out | apply IsS115.alloc | apply IsS115.drewN | apply IsS115.drew | apply IsS115.set_1 | apply IsS115.set_2) | exact HI0.out)); (case side2 => repeat (first | (with_reducible first | exact HB.out | apply below_alloc | apply pw_below_drewN | apply below_drew1 | refine below_set ?_ (IsS115.ge HI0.out)) | exact HB.out)); rintro e w4 ⟨rfl, hi, hb, hk⟩; refine ⟨_, rfl, ?_⟩; have n0_ := Aside0.mk (KeepBut.trans (by repeat (first | (with_reducible first | exact HK.out | apply KeepBut.set_ | apply keep_drewN | apply keep_drew | apply keep_alloc) | exact HK.out)) hk (.inl rfl)); have n1_ := Aside0.mk (hb); have n2_ := Aside0.mk (hi); clear HK; clear HB; clear HI0; have HK := n0_; have HB := n1_; have HI0 := n2_; clear n0_ n1_ n2_; (try clear hb); (try clear hb2); (try clear hk); (try clear hi)) | ((with_reducible refine gate_callee (f := 171) rfl ?_); refine goesL_ (some 7) rfl rfl Tryd.func171 (by kernel_rfl) rfl #[.int .u64 t119] rfl (by (try simp only [List.map_toArray, List.map_cons, List.map_nil]); first | done | rfl | (simp only [List.length_drop, List.length_take]; rfl)) ?_; (with_reducible refine (deckleref01_Zag.calls t119 t122 _ A3.out).mono ?_); rintro e w' ⟨rfl, ⟨nd, rfl⟩⟩; refine ⟨_, rfl, ?_⟩))
  go_ret
  exact ⟨by first | rfl | (simp [errW_none, errW_some] <;> rfl) | (simp [*, errW_none, errW_some] <;> rfl), by repeat (first | (with_reducible first | exact HI0.out | apply IsS115.alloc | apply IsS115.drewN | apply IsS115.drew | apply IsS115.set_1 | apply IsS115.set_2) | exact HI0.out), by repeat (first | (with_reducible first | exact HB.out | apply below_alloc | apply pw_below_drewN | apply below_drew1 | refine below_set ?_ (IsS115.ge HI0.out)) | exact HB.out), by repeat (first | (with_reducible first | exact HK.out | apply KeepBut.set_ | apply keep_drewN | apply keep_drew | apply keep_alloc) | exact HK.out)⟩

end Go.Proofs.YtmoopdhnnpjcfaaDoor.PCo
namespace Go.Proofs.YtmoopdhnnpjcfaaDoor.PCo
open Go.RowKit Go.Proofs.YtmoopdhnnpjcfaaDoorW.PrintWords Go.Proofs.YtmoopdhnnpjcfaaDoorW.PrintLast Go.Proofs.YtmoopdhnnpjcfaaDoorW.PrintMore
attribute [local go_sem] max2_int min2_int max_two min_two max_three min_three max_four min_four   -- for this text's walks alone
set_option linter.unusedVariables false
set_option linter.unusedSimpArgs false

/-! ### deckleref03_Reader_Byte: function 120 -/
def deckleref03_Reader_Byte.f (s0_0 : List Int) (s0_1 s0_2 : Int) : Option (Int × Int × Int) :=
  if 0 ≤ s0_1 ∧ s0_1 ≤ s0_0.length then (if s0_2 ≠ 0 then some (0, s0_1, s0_2) else if s0_1 = s0_0.length then some (0, s0_1, 5) else some (rd s0_0 s0_1, s0_1 + 1, 0)) else none
set_option maxHeartbeats 4000000 in
set_option maxRecDepth 100000 in
theorem deckleref03_Reader_Byte.calls (g : Nat) (s0_0 : List Int) (s0_1 : Int) (s0_2 : Int) (r1 r2 r3 : Int) (w0 w : World) (hI : IsS115 w0 w g s0_0 s0_1 s0_2) (hB : Below w0.heap.size w0 w) (h : deckleref03_Reader_Byte.f s0_0 s0_1 s0_2 = some (r1, r2, r3)) :
    Calls Tryd.prog 120 #[.pointer (some ⟨g, 0, none⟩)] w fun e w' => e = .returned (.int .u8 r1) ∧ IsS115 w0 w' g s0_0 r2 r3 ∧ Below w0.heap.size w0 w' ∧ KeepBut w w' g none := by
  unfold deckleref03_Reader_Byte.f at h
  by_cases hd : 0 ≤ s0_1 ∧ s0_1 ≤ s0_0.length
  case neg => rw [if_neg hd] at h; cases h
  rw [if_pos hd] at h
  obtain ⟨hd0, hd1⟩ := hd
  obtain ⟨a, rfl⟩ := Int.eq_ofNat_of_zero_le hd0
  have ha : a ≤ s0_0.length := by omega
  have HI := Aside0.mk hI
  have HB := Aside0.mk hB
  obtain ⟨A, c, hb, hg, hr⟩ := hI
  have c2 : w.cell? ⟨g, 2, none⟩ = some (.int .i64 s0_2) := (blk_cell hb 2).trans rfl
  have hm := hr.2.1
  by_cases h2 : s0_2 = 0
  case neg =>
    rw [if_pos h2] at h
    simp only [Option.some.injEq, Prod.mk.injEq] at h
    obtain ⟨rfl, rfl, rfl⟩ := h
    have t1 : (s0_2 != 0) = true := bne_iff_ne.mpr h2
    clear hB hb hg hr hd0 hd1 h2
    go_enter Tryd.func120, Tryd.ntmps120
    go_wp2
    go_ret
    exact ⟨rfl, HI.out, HB.out, KeepBut.refl _ _ _⟩
  rw [if_neg (by simpa using h2)] at h
  subst h2
  obtain ⟨A1, c1, hc1, hA1, hR⟩ := deckleref03_Reader_rest.state HI.out HB.out ha
  have HR := Aside0.mk (hR 0)
  clear hR hA1
  by_cases he : a = s0_0.length
  · rw [if_pos (by omega)] at h
    simp only [Option.some.injEq, Prod.mk.injEq] at h
    obtain ⟨rfl, rfl, rfl⟩ := h
    have z : s0_0.length - a = 0 := by omega
    rw [z] at HR
    have HE := Aside0.mk he
    clear hB hb hg hr hd0 hd1 z hc1 he
    go_enter Tryd.func120, Tryd.ntmps120
    go_wp2_with fail
    refine HR.out.mono ?_
    rintro e w' ⟨rfl, m, rfl⟩
    have HI1 := Aside0.mk (IsS115.drewN HI.out m)
    have HB1 := Aside0.mk (pw_below_drewN HB.out m)
    have HK1 := Aside0.mk (keep_drewN (KeepBut.refl w g none) m)
    obtain ⟨w1, hw1⟩ : ∃ w1, w.drewN m = w1 := ⟨_, rfl⟩
    rw [hw1] at HI1 HB1 HK1 ⊢
    clear hw1 c2
    obtain ⟨A', c', hb', -⟩ := HI1.out
    have c2 : w1.cell? ⟨g, 2, none⟩ = some (.int .i64 0) := (blk_cell hb' 2).trans rfl
    have f2 := blk_frozen hb' 2
    clear hb'
    go_wp2
    go_ret
    exact ⟨rfl, IsS115.set_2 HI1.out 5, below_set HB1.out (IsS115.ge HI1.out), KeepBut.set_ HK1.out 2 _⟩
  · rw [if_neg (by omega)] at h
    simp only [Option.some.injEq, Prod.mk.injEq] at h
    obtain ⟨rfl, rfl, rfl⟩ := h
    obtain ⟨n1, hn1⟩ : ∃ n1, s0_0.length - a = n1 := ⟨_, rfl⟩
    rw [hn1] at HR
    have t1 : ((n1 : Int) == 0) = false := beq_eq_false_iff_ne.mpr (by omega)
    have hal : a < s0_0.length := by omega
    have hmax : (a : Int) + 1 ≤ 9223372036854775807 := by omega
    have HE := Aside0.mk hal
    obtain ⟨ad, e, hx⟩ := Kd.at_int hr (a : Int) (by omega) (by omega)
    subst e
    rw [Int.toNat_natCast] at hx
    have hadb : (ad.add a).block ≠ g := by have := World.block_lt_of_cell? w0 _ hx; have := hg.1; omega
    have HX := Aside0.mk hx
    have HAD := Aside0.mk hadb
    have HBK := Aside0.mk hb
    obtain ⟨nn, hnn⟩ : ∃ nn, s0_0.length = nn := ⟨_, rfl⟩
    rw [hnn] at hal HBK
    have p0 : (0 ≤ (a : Int)) = True := eq_true (by omega)
    have p1 : ((a : Int) < (nn : Int)) = True := eq_true (by omega)
    clear hB hb hg hr hd0 hd1 hn1 hc1 he hx hadb hnn hm ha
    go_enter Tryd.func120, Tryd.ntmps120
    go_wp2_with fail
    refine HR.out.mono ?_
    rintro e w' ⟨rfl, m, rfl⟩
    have HI1 := Aside0.mk (IsS115.drewN HI.out m)
    have HB1 := Aside0.mk (pw_below_drewN HB.out m)
    have HK1 := Aside0.mk (keep_drewN (KeepBut.refl w g none) m)
    have hb1 : (w.drewN m).heap[g]? = _ := HBK.out
    obtain ⟨w1, hw1⟩ : ∃ w1, w.drewN m = w1 := ⟨_, rfl⟩
    rw [hw1] at HI1 HB1 HK1 hb1 ⊢
    clear hw1 c2 HBK
    have HI2 := Aside0.mk (IsS115.set_1 HI1.out ((a : Int) + 1))
    have HB2 := Aside0.mk (below_set (v := .int .i64 ((a : Int) + 1)) (j := 1) HB1.out (IsS115.ge HI1.out))
    have HK2 := Aside0.mk (KeepBut.set_ HK1.out 1 (.int .i64 ((a : Int) + 1)))
    have d0 : w1.cell? ⟨g, 0, none⟩ = some (.slice (some ad) nn c) := (blk_cell hb1 0).trans rfl
    have d1 : w1.cell? ⟨g, 1, none⟩ = some (.int .i64 (a : Int)) := (blk_cell hb1 1).trans rfl
    have d2 : w1.cell? ⟨g, 2, none⟩ = some (.int .i64 0) := (blk_cell hb1 2).trans rfl
    have f1 := blk_frozen hb1 1
    have hb2 := blk_set hb1 1 (.int .i64 ((a : Int) + 1))
    have e0 : (w1.setCell ⟨g, 1, none⟩ (.int .i64 ((a : Int) + 1))).cell? ⟨g, 0, none⟩ = some (.slice (some ad) nn c) := (blk_cell hb2 0).trans rfl
    have e1 : (w1.setCell ⟨g, 1, none⟩ (.int .i64 ((a : Int) + 1))).cell? ⟨g, 1, none⟩ = some (.int .i64 ((a : Int) + 1)) := (blk_cell hb2 1).trans rfl
    have ex : (w1.setCell ⟨g, 1, none⟩ (.int .i64 ((a : Int) + 1))).cell? (ad.add a) = some (.int .u8 (rd s0_0 (a : Int))) := keep_cell (KeepBut.set_ (KeepBut.refl w1 g none) 1 _) (pw_cell_below HB1.out HX.out) HAD.out
    clear hb1 hb2
    go_wp2_with fail
    go_quiet (fail)
    go_wp2
    go_ret
    exact ⟨rfl, IsS115.drewN HI2.out _, pw_below_drewN HB2.out _, keep_drewN HK2.out _⟩

end Go.Proofs.YtmoopdhnnpjcfaaDoor.PCo
