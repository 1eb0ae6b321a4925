import Derived.Test.YtmoopdhnnpjcfaaDoorCoFF
import Derived.Test.YtmoopdhnnpjcfaaDoorSpA
import Derived.Deep.RegionWith
import Derived.RegionTactic
import Derived.BigRegion
/-! ColumnShared. -/
namespace Go.Proofs.YtmoopdhnnpjcfaaDoor.Sh
open Go.RowKit Go.Proofs.YtmoopdhnnpjcfaaDoorW.PrintWords Go.Proofs.YtmoopdhnnpjcfaaDoorW.PrintLast Go.Proofs.YtmoopdhnnpjcfaaDoorW.PrintMore Go.Proofs.YtmoopdhnnpjcfaaDoor.Wire Go.Proofs.YtmoopdhnnpjcfaaDoor.PCo Go.Proofs.YtmoopdhnnpjcfaaDoor.CoG Go.Proofs.YtmoopdhnnpjcfaaDoor.Rd Go.Proofs.YtmoopdhnnpjcfaaDoor.Co
set_option linter.unusedVariables false
set_option linter.unusedSimpArgs false
set_option maxRecDepth 100000
set_option maxHeartbeats 2000000 in
theorem shared_drawn (a b : ByteArray) (ha : a.size ≤ 9223372036854775806) (w : World) : Calls Tryd.prog 32 #[.string a, .string b] w fun e w' => e = .returned (.int .i64 (shared a b : Int)) ∧ Drawn0 w w' := by
  have HL := Aside0.mk (shared_le a b)
  have HX := Aside0.mk (fun n (h : n ≤ shared a b) h1 h2 => shared_next (a := a) (b := b) (n := n) h h1 h2)
  obtain ⟨S, hS⟩ : ∃ S, shared a b = S := ⟨_, rfl⟩
  rw [hS] at HL HX ⊢
  clear hS
  go_enter Tryd.func32, Tryd.ntmps32
  go_wp2
  go_loopw [5] (fun i wr => ∃ n : Nat, n ≤ S ∧ i = .int .i64 (n : Int) ∧ Aside0 (Drawn0 w wr)) (fun i _ => S - (intOf i).toNat)
  case atStart => exact ⟨0, by omega, rfl, ⟨Drawn0.refl _⟩⟩
  case round =>
    obtain ⟨n, hn, rfl, HB⟩ := hrel
    have hl1 := HL.out.1
    have hl2 := HL.out.2
    have p0 : (0 ≤ (n : Int)) = True := eq_true (by omega)
    by_cases hab : n < a.size ∧ n < b.size
    · obtain ⟨ha1, hb1⟩ := hab
      have p1 : ((n : Int) < (a.size : Int)) = True := eq_true (by omega)
      have p2 : ((n : Int) < (b.size : Int)) = True := eq_true (by omega)
      have l3 : decide ((n : Int) < min (a.size : Int) (b.size : Int)) = true := decide_eq_true (by omega)
      have hxx := HX.out n hn ha1 hb1
      have hmax : (n : Int) + 1 ≤ 9223372036854775807 := by omega
      obtain ⟨xa, hxa⟩ : ∃ xa : Int, ∀ h : n < a.size, ((a[n]'h).toNat : Int) = xa := ⟨((a[n]'ha1).toNat : Int), fun h => rfl⟩
      obtain ⟨xb, hxb⟩ : ∃ xb : Int, ∀ h : n < b.size, ((b[n]'h).toNat : Int) = xb := ⟨((b[n]'hb1).toNat : Int), fun h => rfl⟩
      have hE := Aside0.mk (show n < S ↔ xa = xb from by
        rw [hxx, ← hxa ha1, ← hxb hb1]
        constructor
        · intro h; rw [h]
        · intro h; exact UInt8.toNat_inj.1 (by omega))
      clear hxx
      by_cases hlt : n < S
      · have hE1 := hE.out.1 hlt
        subst hE1
        have q0 : (xa == xa) = true := by simp
        have HLT := Aside0.mk hlt
        clear hE hlt hn
        go_wp2_with fail
        go_quiet (fail)
        go_wp2_with fail
        go_roundw
        case rel => exact ⟨n + 1, HLT.out, by go_num, ⟨HB.out.step _⟩⟩
        case measure => have := HLT.out; simp [intOf]; omega
      · have q0 : (xa == xb) = false := beq_eq_false_iff_ne.mpr (fun h => hlt (hE.out.2 h))
        obtain rfl : S = n := by omega
        clear hE hlt hn
        go_wp2_with fail
        go_quiet (fail)
        go_wp2
        go_ret
        exact ⟨rfl, HB.out.step _⟩
    · have l3 : decide ((n : Int) < min (a.size : Int) (b.size : Int)) = false := decide_eq_false (by omega)
      obtain rfl : S = n := by omega
      clear hn hab
      go_wp2_with fail
      go_quiet (fail)
      go_wp2
      go_ret
      exact ⟨rfl, HB.out.step _⟩
theorem shr_comm : ∀ a b : List UInt8, Co.shr a b = Co.shr b a
  | [], [] => rfl
  | [], _ :: _ => rfl
  | _ :: _, [] => rfl
  | x :: xs, y :: ys => by
    simp only [Co.shr]
    by_cases h : x = y
    · rw [if_pos h, if_pos h.symm, shr_comm xs ys]
    · rw [if_neg h, if_neg (fun z => h z.symm)]
theorem shared_comm (a b : ByteArray) : shared a b = shared b a := shr_comm _ _
theorem shared_cut (a b : ByteArray) : a.extract 0 (shared a b) = b.extract 0 (shared a b) := by
  refine ByteArray.ext (Array.toList_inj.1 ?_)
  rw [ByteArray.data_extract, ByteArray.data_extract, Array.toList_extract, Array.toList_extract]
  simp only [List.extract_eq_take_drop, List.drop_zero, Nat.sub_zero]
  exact shr_take _ _
theorem refShared_calls (a b : ByteArray) (ha : a.size ≤ 4611686018427387904) (w : World) : Calls Tryd.prog 33 #[.string a, .string b] w fun e w' => e = .returned (.int .i64 (shared a b : Int)) ∧ Drawn0 w w' :=
  deckleref09_Shared.calls (a.size + 1) a b _ w (refShared a b ha _ (Nat.le_refl _))
theorem quiet_ {P : Program} {f : FuncId} {args : Array Value} {w : World} {v : Value} (h : Calls P f args w fun e w' => e = .returned v ∧ Drawn0 w w') : Calls P f args w fun e w' => e = .returned v ∧ ∃ m, w' = w.drewN m := h.mono fun _ _ ⟨he, hd⟩ => ⟨he, hd.out⟩
set_option maxHeartbeats 8000000 in
theorem shared_small (a b : ByteArray) (n0 n1 : Int) (w : World) (hU : UtfW w) (ha : a.size ≤ 1000) (hb : b.size ≤ 1000) : Calls Tryd.prog 9 #[.string a, .string b, .agg #[.int .i64 n0, .int .i64 n1]] w fun e w' => e = .returned (.bool true) ∧ Below w.heap.size w w' := by
  have HU := Aside0.mk hU
  have HS := Aside0.mk (fun W => shared_drawn a b (by omega) W)
  have HS2 := Aside0.mk (fun W => shared_drawn b a (by omega) W)
  rw [shared_comm b a] at HS2
  have HR := Aside0.mk (fun W => refShared_calls a b (by omega) W)
  have HC := Aside0.mk (shared_cut a b)
  have HL := shared_le a b
  obtain ⟨S, hS⟩ : ∃ S, shared a b = S := ⟨_, rfl⟩
  rw [hS] at HS HS2 HR HC HL
  clear hS
  obtain ⟨hl1, hl2⟩ := HL
  have t1 : decide ((1000 : Int) < (a.size : Int)) = false := decide_eq_false (by omega)
  have t2 : decide (1000 < a.size) = false := decide_eq_false (by omega)
  have t3 : decide ((1000 : Int) < (b.size : Int)) = false := decide_eq_false (by omega)
  have t4 : decide (1000 < b.size) = false := decide_eq_false (by omega)
  have q1 : decide ((S : Int) < 0) = false := decide_eq_false (by omega)
  have q2 : decide (min (a.size : Int) (b.size : Int) < (S : Int)) = false := decide_eq_false (by omega)
  have q3 : ((a.extract 0 S).toList == (b.extract 0 S).toList) = true := by rw [HC.out]; simp
  have HB1 := Aside0.mk (fun W => column_Bound.calls n0 n1 _ W (bound_is n0 n1))
  have HB2 := Aside0.mk (fun W => deckleref09_Bound.calls n0 n1 _ W (refBound_is n0 n1))
  obtain ⟨B, hB⟩ : ∃ B, bound n0 n1 = B := ⟨_, rfl⟩
  rw [hB] at HB1 HB2
  clear hB
  go_enter Tryd.func9, Tryd.ntmps9
  go_wp2_with fail
  refine (HS.out _).mono ?_
  rintro e w1 ⟨rfl, hd1⟩
  have hbx0 : (w.alloc (.cells #[.int .i64 n0, .int .i64 n1] 54)).heap[w.heap.size]? = some (.cells #[.int .i64 n0, .int .i64 n1] 54 (0, 0)) := heap_alloc_new w _
  have HX := Aside0.mk (blk_below hbx0 hd1.below)
  have HBL := Aside0.mk (below_step (below_alloc (Below.refl w.heap.size w) (.cells #[.int .i64 n0, .int .i64 n1] 54)) hd1.below)
  clear hbx0 hd1
  go_wp2_with fail
  go_quiet (first | (go_at_call 33; exact Calls.quiet_of (quiet_ (HR.out _))) | (go_at_call 32; exact Calls.quiet_of (quiet_ (HS2.out _))))
  have HX2 := Aside0.mk (show (w1.drewN nq).heap[w.heap.size]? = some (.cells #[.int .i64 n0, .int .i64 n1] 54 (0, 0)) from HX.out)
  have HBL2 := Aside0.mk (pw_below_drewN HBL.out nq)
  clear HX HBL HR HS2 HS q1 q2 q3 t1 t2 t3 t4
  generalize w1.drewN nq = w2 at *
  have hUW := HU.out.below HBL2.out
  have HA := Aside0.mk (fun n => alive_calls (w2.drewN n) (show UtfW (w2.drewN n) from hUW))
  have HY := Aside0.mk (fun (n : Nat) (w3 : World) (b3 : Below (w2.drewN n).heap.size (w2.drewN n) w3) => (show w3.heap[w.heap.size]? = some (.cells #[.int .i64 n0, .int .i64 n1] 54 (0, 0)) ∧ Below w.heap.size w w3 from ⟨blk_below (w := w2.drewN n) HX2.out b3, below_step (pw_below_drewN HBL2.out n) b3⟩))
  clear HU hU hUW HX2 HBL2
  go_wp2_with fail
  go_region_with (first
    | (go_at_call 20; refine (HA.out _).mono ?_; rintro e w3 ⟨rfl, b3⟩; obtain ⟨x3, y3⟩ := HY.out _ w3 b3; have HX3 := Aside0.mk x3; have HBL3 := Aside0.mk y3; clear x3 y3 b3 HA HY; have c0 : w3.cell? ⟨w.heap.size, 0, none⟩ = some (.int .i64 n0) := (blk_cell HX3.out 0).trans rfl; have c1 : w3.cell? ⟨w.heap.size, 1, none⟩ = some (.int .i64 n1) := (blk_cell HX3.out 1).trans rfl)
    | (go_at_call 34; refine (HB1.out _).mono ?_; rintro e w4 ⟨rfl, b4⟩; have HX4 := Aside0.mk (blk_below HX3.out b4); have HBL4 := Aside0.mk (below_step HBL3.out b4); clear b4 c0 c1; have c0 : w4.cell? ⟨w.heap.size, 0, none⟩ = some (.int .i64 n0) := (blk_cell HX4.out 0).trans rfl; have c1 : w4.cell? ⟨w.heap.size, 1, none⟩ = some (.int .i64 n1) := (blk_cell HX4.out 1).trans rfl)
    | (go_at_call 35; refine (HB2.out _).mono ?_; rintro e w5 ⟨rfl, ⟨m5, rfl⟩⟩))
  all_goals
    go_wp2
    go_ret
    exact ⟨rfl, pw_below_drewN HBL4.out _⟩
end Go.Proofs.YtmoopdhnnpjcfaaDoor.Sh
