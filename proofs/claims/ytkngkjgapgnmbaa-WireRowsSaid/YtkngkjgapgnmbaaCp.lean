import Derived.Test.YtkngkjgapgnmbaaGCb
import Derived.Test.YtkngkjgapgnmbaaGWb
import Derived.Outline
import Derived.BigQuiet
import Derived.WalkSmall
import Derived.Deep.LoopGhost
namespace Go.Proofs.Ytkngkjgapgnmbaa.Cp
open Go.RowKit Go.Proofs.YtkngkjgapgnmbaaW.PrintWords Go.Proofs.YtkngkjgapgnmbaaW.PrintLast Go.Proofs.YtkngkjgapgnmbaaW.PrintMore Go.Proofs.Ytkngkjgapgnmbaa.Wire Go.Proofs.Ytkngkjgapgnmbaa.Crc Go.Proofs.Ytkngkjgapgnmbaa.PCb Go.Proofs.Ytkngkjgapgnmbaa.CbC Go.Proofs.Ytkngkjgapgnmbaa.WbG
set_option linter.unusedVariables false
set_option linter.unusedSimpArgs false
set_option maxRecDepth 100000

theorem info8 : (Try.prog.info? 5).map (fun i => (i.zero, i.size, i.bytes)) = some (some (.int .u8 0), 1, 1) := by kernel_rfl
theorem cut_rest {A : Option Addr} {l : List Int} {c a : Nat} (hc : l.length ≤ c) (ha : a ≤ l.length) :
    ∃ A1 : Option Addr, (∀ w : World, (Instr.slice 22 (.slice A l.length c) (some (.int .i64 (a : Int))) none none).run Try.prog w = .ok (.slice A1 (l.length - a) (c - a)) w) ∧
      (∀ w : World, (Kd.int .u8).C w A l.length l → (Kd.int .u8).C w A1 (l.drop a).length (l.drop a)) ∧ (l.drop a).length ≤ c - a := by
  obtain ⟨i0, hi0, _, hsz0, _⟩ := info_parts info8
  obtain ⟨A1, h1, h2, h3⟩ := print_drop_of (P := Try.prog) (Value.int .u8) 0 22 5 .i64 Try.underlying22 hi0 hsz0 A c l (a : Int) (by omega) (by omega) hc
  simp only [Int.toNat_natCast] at h1 h2 h3
  refine ⟨A1, fun w => ?_, fun w hw => Kd.C_of_reads (h1 := fun _ => rfl) (h2 w (Kd.reads_of_C hw)), h3⟩
  rw [h1 w, List.length_drop]
theorem cut_head {A : Option Addr} {l : List Int} {c a : Nat} (hc : l.length ≤ c) (ha : a ≤ l.length) :
    (∀ w : World, (Instr.slice 22 (.slice A l.length c) none (some (.int .i64 (a : Int))) none).run Try.prog w = .ok (.slice A a c) w) ∧
      (∀ w : World, (Kd.int .u8).C w A l.length l → (Kd.int .u8).C w A (l.take a).length (l.take a)) ∧ (l.take a).length ≤ c := by
  obtain ⟨i0, hi0, _, hsz0, _⟩ := info_parts info8
  obtain ⟨h1, h2, h3⟩ := print_take_of (P := Try.prog) (Value.int .u8) 0 22 5 .i64 Try.underlying22 hi0 hsz0 A c l (a : Int) (by omega) (by omega) hc
  simp only [Int.toNat_natCast] at h1 h2 h3
  refine ⟨fun w => ?_, fun w hw => Kd.C_of_reads (h1 := fun _ => rfl) (h2 w (Kd.reads_of_C hw)), h3⟩
  rw [h1 w, List.length_take, Nat.min_eq_left ha]
theorem more_calls {W : World} {A1 : Option Addr} {c n : Nat} {q : List Int} (p : List Int) (hn : q.length = n) (hp : Bytes p) (hq : Bytes q) (hC : (Kd.int .u8).C W A1 q.length q) (hc : q.length ≤ c) :
    Calls Try.prog 16 #[.int .u32 (sum p : Int), .slice A1 n c] W fun e w' => e = .returned (.int .u32 (sum (p ++ q) : Int)) ∧ Below W.heap.size W w' := by
  subst hn
  have hlt := sum_lt p
  have hF := F_lt hp
  refine crc_More.calls (sum p : Int) A1 c q _ W hC hc ?_
  rw [more hq (sum p) hlt]
  congr 2
  unfold sum F
  rw [fold_append]
  congr 2
  unfold F at hF
  omega
theorem sum_calls {W : World} {A1 : Option Addr} {c : Nat} {q : List Int} (hq : Bytes q) (hC : (Kd.int .u8).C W A1 q.length q) (hc : q.length ≤ c) :
    Calls Try.prog 17 #[.slice A1 q.length c] W fun e w' => e = .returned (.int .u32 (sum q : Int)) ∧ Below W.heap.size W w' :=
  crc_Sum.calls A1 c q _ W hC hc (csum hq)
theorem alive2_calls (w : World) : Calls Try.prog 15 #[] w fun e w' => e = .returned (.bool true) ∧ Below w.heap.size w w' := decklelaw02_alive.calls true w rfl
theorem sum_nil : sum [] = 0 := by decide
set_option maxHeartbeats 4000000 in
theorem crcPieces_calls (A0 A1 : Option Addr) (c0 c1 : Nat) (l cs : List Int) (w : World) (hr0 : Kd.C (Kd.int .u8) w A0 l.length l) (hc0 : l.length ≤ c0) (hb0 : Bytes l) (hr1 : Kd.C (Kd.int .u8) w A1 cs.length cs) (hc1 : cs.length ≤ c1) (hb1 : Bytes cs) :
    Calls Try.prog 3 #[.slice A0 l.length c0, .slice A1 cs.length c1] w fun e w' => e = .returned (.bool true) ∧ Below w.heap.size w w' := by
  have HR0 := Aside0.mk hr0
  have HR1 := Aside0.mk hr1
  have HB0 := Aside0.mk hb0
  have HB1 := Aside0.mk hb1
  have hm0 : l.length ≤ 9223372036854775807 := hr0.2.1
  have hm1 : cs.length ≤ 9223372036854775807 := hr1.2.1
  clear hr0 hr1 hb0 hb1
  by_cases hbig : 2000 < l.length ∨ 100 < cs.length
  · have fin : ∀ W : World, Below w.heap.size w W → ∀ w', Below W.heap.size W w' → Below w.heap.size w w' := fun W a w' b => below_step a b
    by_cases h0 : 2000 < l.length
    · have t1 : decide ((2000 : Int) < (l.length : Int)) = true := decide_eq_true (by omega)
      have t2 : decide (2000 < l.length) = true := decide_eq_true h0
      go_enter Try.func3, Try.ntmps3
      go_wp2_with fail
      refine (alive2_calls _).mono ?_
      rintro e w1 ⟨rfl, b1⟩
      go_wp2
      go_ret
      exact ⟨rfl, b1⟩
    · have h1 := hbig.resolve_left h0
      have t1 : decide ((2000 : Int) < (l.length : Int)) = false := decide_eq_false (by omega)
      have t2 : decide (2000 < l.length) = false := decide_eq_false h0
      have t3 : decide ((100 : Int) < (cs.length : Int)) = true := decide_eq_true (by omega)
      have t4 : decide (100 < cs.length) = true := decide_eq_true h1
      go_enter Try.func3, Try.ntmps3
      go_wp2_with fail
      refine (alive2_calls _).mono ?_
      rintro e w1 ⟨rfl, b1⟩
      go_wp2
      go_ret
      exact ⟨rfl, b1⟩
  · have t1 : decide ((2000 : Int) < (l.length : Int)) = false := decide_eq_false (by omega)
    have t2 : decide (2000 < l.length) = false := decide_eq_false (by omega)
    have t3 : decide ((100 : Int) < (cs.length : Int)) = false := decide_eq_false (by omega)
    have t4 : decide (100 < cs.length) = false := decide_eq_false (by omega)
    have HL := Aside0.mk (show l.length ≤ 2000 by omega)
    go_enter Try.func3, Try.ntmps3
    go_wp2
    go_loopw [5, 6, 22] (fun s v i wr => ∃ (k : Nat) (p m : List Int) (A2 : Option Addr) (c2 : Nat), k ≤ cs.length ∧ i = .int .i64 (k : Int) ∧ s = .int .u32 (sum p : Int) ∧ v = .slice A2 m.length c2 ∧ Aside0 (l = p ++ m) ∧ Aside0 (m.length ≤ c2) ∧ Aside0 ((Kd.int .u8).C wr A2 m.length m) ∧ Aside0 (Below w.heap.size w wr)) (fun _ _ i _ => cs.length - (intOf i).toNat)
    case atStart => exact ⟨0, [], l, A0, c0, by omega, rfl, by rw [sum_nil]; rfl, rfl, ⟨rfl⟩, ⟨hc0⟩, ⟨HR0.out⟩, ⟨Below.refl _ _⟩⟩
    case round =>
      obtain ⟨k, p, m, A2, c2, hk, rfl, rfl, rfl, HE, HC2, HM, HB⟩ := hrel
      have HBP := Aside0.mk (show Bytes p ∧ Bytes m from ⟨fun c hc => HB0.out c (by rw [HE.out]; exact List.mem_append_left _ hc), fun c hc => HB0.out c (by rw [HE.out]; exact List.mem_append_right _ hc)⟩)
      have HML := Aside0.mk (show m.length ≤ 2000 from by have := HL.out; rw [HE.out, List.length_append] at this; omega)
      by_cases hlt : k < cs.length
      · have u1 : decide ((k : Int) < (cs.length : Int)) = true := decide_eq_true (by omega)
        have u2 : decide (k < cs.length) = true := decide_eq_true hlt
        obtain ⟨ad, e, hx⟩ := Kd.at_int (Kd.C_below HR1.out HB.out) (k : Int) (by omega) (by omega)
        cases e
        rw [Int.toNat_natCast] at hx
        have hby := HB1.out.rd_ k
        obtain ⟨c, hc⟩ := Int.eq_ofNat_of_zero_le hby.1
        rw [hc] at hx hby
        have hcl : c < 256 := by omega
        have p1 : (0 ≤ (k : Int)) = True := eq_true (by omega)
        have p2 : ((k : Int) < (cs.length : Int)) = True := eq_true (by omega)
        obtain ⟨n1, hn1⟩ : ∃ n1, m.length = n1 := ⟨_, rfl⟩
        obtain ⟨q, hq⟩ : ∃ q : Nat, c % (n1 + 1) = q := ⟨_, rfl⟩
        have hql : q ≤ n1 := by have := Nat.mod_lt c (show 0 < n1 + 1 by omega); omega
        have hqi : (c : Int) % ((n1 : Int) + 1) = (q : Int) := by rw [← hq]; simp
        have hn2 : n1 ≤ 2000 := by have := HML.out; omega
        obtain ⟨cutH, hA, hcH⟩ := cut_head (A := A2) (l := m) (c := c2) (a := q) HC2.out (by omega)
        obtain ⟨A3, cutR, hA3, hcR⟩ := cut_rest (A := A2) (l := m) (c := c2) (a := q) HC2.out (by omega)
        rw [hn1] at cutH cutR
        have HMO := Aside0.mk (more_calls p (show (m.take q).length = q by rw [List.length_take]; omega) HBP.out.1 (HBP.out.2.take q) (hA _ HM.out) hcH)
        have HA3 := Aside0.mk (show ∀ w', Below wr.heap.size wr w' → _ from fun w' hb => hA3 w' (Kd.C_below HM.out hb))
        have HCR := Aside0.mk hcR
        have HN1 := Aside0.mk hn1
        have hmax : (k : Int) + 1 ≤ 9223372036854775807 := by omega
        have HLT := Aside0.mk hlt
        have HQ := Aside0.mk hql
        rw [hn1]
        clear hn1 hq hA hA3 hcH hcR hby hc hlt hql hk
        go_wp2_with fail
        refine HMO.out.mono ?_
        rintro e w2 ⟨rfl, b2⟩
        go_wp2
        go_roundw
        case rel =>
          refine ⟨k + 1, p ++ m.take q, m.drop q, A3, c2 - q, HLT.out, by go_num, rfl, ?_, ⟨?_⟩, ⟨HCR.out⟩, ⟨HA3.out _ b2⟩, ⟨below_step HB.out b2⟩⟩
          · rw [List.length_drop, HN1.out]
          · rw [List.append_assoc, List.take_append_drop]; exact HE.out
        case measure => have := HLT.out; simp [intOf]; omega
      · have u1 : decide ((k : Int) < (cs.length : Int)) = false := decide_eq_false (by omega)
        have u2 : decide (k < cs.length) = false := decide_eq_false hlt
        go_wp2_with fail
        refine (alive2_calls _).mono ?_
        rintro e w2 ⟨rfl, b2⟩
        go_wp2_with fail
        refine (more_calls p rfl HBP.out.1 HBP.out.2 (Kd.C_below HM.out b2) HC2.out).mono ?_
        rintro e w3 ⟨rfl, b3⟩
        go_wp2_with fail
        have b4 := below_step (below_step HB.out b2) b3
        refine (sum_calls HB0.out (Kd.C_below HR0.out b4) hc0).mono ?_
        rintro e w4 ⟨rfl, b5⟩
        have HEE := Aside0.mk (show ((sum (p ++ m) : Nat) : Int) = ((sum l : Nat) : Int) by rw [← HE.out])
        rw [HEE.out]
        go_wp2
        go_ret
        exact ⟨by first | rfl | simp, below_step b4 b5⟩
end Go.Proofs.Ytkngkjgapgnmbaa.Cp
