import Derived.Test.YtamnnaadnjkdiaaRdG
import Derived.Deep.LoopGhost
namespace Go.Proofs.Ytamnnaadnjkdiaa.Rd
open Go.RowKit Go.Proofs.YtamnnaadnjkdiaaW.PrintWords Go.Proofs.YtamnnaadnjkdiaaW.PrintLast Go.Proofs.YtamnnaadnjkdiaaW.PrintMore Go.Proofs.Ytamnnaadnjkdiaa.Wire Go.Proofs.Ytamnnaadnjkdiaa.PWi Go.Proofs.Ytamnnaadnjkdiaa.WiG
set_option linter.unusedVariables false
set_option linter.unusedSimpArgs false
set_option maxRecDepth 100000

theorem Kp.set_one {b : Nat} (w : World) (j : Nat) (u : Value) : Kp (fun k => k = b) w (w.setCell ⟨b, j, none⟩ u) := (Kp.refl _ w).set_g j u
/-! ### ReaderMust -/
structure MustVars (W : World) (bk ba be bb : Nat) (K : Nat) (e : Int) (ahead : Bool) : Prop where
  k : W.heap[bk]? = some (.cells #[.int .i64 (K : Int)] 3 (0, 0))
  a : W.heap[ba]? = some (.cells #[.bool ahead] 4 (0, 0))
  e : W.heap[be]? = some (.cells #[.int .u8 e] 5 (0, 0))
  b : W.heap[bb]? = some (.cells #[.bool false] 4 (0, 0))
theorem MustVars.keep {W W' : World} {bk ba be bb K : Nat} {e : Int} {ah : Bool} (h : MustVars W bk ba be bb K e ah) {S : Nat → Prop} (hk : Kp S W W') (h1 : ¬ S bk) (h2 : ¬ S ba) (h3 : ¬ S be) (h4 : ¬ S bb) : MustVars W' bk ba be bb K e ah :=
  ⟨hk.blk h.k h1, hk.blk h.a h2, hk.blk h.e h3, hk.blk h.b h4⟩
set_option maxHeartbeats 2000000 in
theorem must_closure {w0 W : World} {g bk ba be bb K : Nat} {A : Option Addr} {c : Nat} {l : List Int} {e : Int} (h : Rd w0 W g A c l 0) (hv : MustVars W bk ba be bb K e false) (hK : K ≤ l.length) (he0 : 0 ≤ e) (he1 : e < 256)
    (ng : bk ≠ g ∧ ba ≠ g ∧ be ≠ g ∧ bb ≠ g) (hab : ba ≠ bb) (hold : w0.heap.size ≤ ba) :
    Calls Try.prog 16 (#[.pointer (some ⟨g, 0, none⟩)] ++ #[.pointer (some ⟨bk, 0, none⟩), .pointer (some ⟨ba, 0, none⟩), .pointer (some ⟨be, 0, none⟩), .pointer (some ⟨bb, 0, none⟩)]) W (Left_ (fun k => k = ba) g A l.length c W (fun a w' => False) (fun a er w' => a = K ∧ er = 1 + e % 17 ∧ MustVars w' bk ba be bb K e true)) := by
  have HV := Aside0.mk hv
  have HNG := Aside0.mk ng
  have HAB := Aside0.mk hab
  have ck : W.cell? ⟨bk, 0, none⟩ = some (.int .i64 (K : Int)) := (blk_cell hv.k 0).trans rfl
  have hl := h.len
  have hl2 : l.length ≤ 9223372036854775807 := by omega
  clear hv ng hab
  go_enter Try.func16, Try.ntmps16
  go_wp2
  go_loopw [7] (fun i wr => ∃ j : Nat, j ≤ K ∧ i = .int .i64 (j : Int) ∧ Rd w0 wr g A c l j ∧ Kp (fun k => k = g) W wr) (fun i _ => K - (intOf i).toNat)
  case atStart => exact ⟨0, by omega, rfl, h, Kp.refl _ _⟩
  case round =>
    obtain ⟨j, hj, rfl, hr, hk⟩ := hrel
    by_cases hlt : j < K
    · have t1 : decide ((j : Int) < (K : Int)) = true := decide_eq_true (by omega)
      have t2 : decide (j < K) = true := decide_eq_true hlt
      go_wp2_with fail
      refine (hr.byte_step (by omega)).mono ?_
      rintro e w2 ⟨rfl, h2, k2⟩
      go_wp2
      go_roundw
      case rel => exact ⟨j + 1, by omega, by go_num, h2, hk.trans k2⟩
      case measure => simp [intOf]; omega
    · have t1 : decide ((j : Int) < (K : Int)) = false := decide_eq_false (by omega)
      have t2 : decide (j < K) = false := decide_eq_false hlt
      obtain rfl : j = K := by omega
      go_wp2_with fail
      refine (hr.must_step true 10 (.inl rfl)).mono ?_
      rintro e w2 ⟨rfl, h2, k2⟩
      go_wp2_with fail
      refine (h2.must_step false 0 (.inr rfl)).mono ?_
      rintro e w3 ⟨rfl, h3, k3⟩
      have kall := (hk.trans k2).trans k3
      have hv3 := HV.out.keep kall HNG.out.1 HNG.out.2.1 HNG.out.2.2.1 HNG.out.2.2.2
      have ca : w3.cell? ⟨ba, 0, none⟩ = some (.bool false) := (blk_cell hv3.a 0).trans rfl
      have ce : w3.cell? ⟨be, 0, none⟩ = some (.int .u8 _) := (blk_cell hv3.e 0).trans rfl
      have fa := blk_frozen hv3.a 0
      have HV3 := Aside0.mk hv3
      clear hv3
      have hbe : ¬ be = ba := fun z => blk_ne HV3.out.e HV3.out.a (by decide) z
      have hr4 := h3.keep (S := fun k => k = ba) (Kp.set_one w3 0 (.bool true)) (fun k z => by rw [z]; exact ⟨hold, HNG.out.2.1⟩)
      go_wp2_with fail
      refine (hr4.must_end (1 + e % 17) (by omega)).mono ?_
      rintro e' w5 ⟨rfl, h5, k5⟩
      (try simp only [Exit.inBlock, Exit.then])
      have kb : Kp (fun k => k = g ∨ k = ba) W w5 := (((kall.mono (fun k z => .inl z)).setCell (p := ⟨ba, 0, none⟩) (.inl (.inr rfl)) (.bool true)).trans (k5.mono (fun k z => .inl z)))
      have hm4 : MustVars (w3.setCell ⟨ba, 0, none⟩ (.bool true)) bk ba be bb j e true :=
        ⟨blk_far HV3.out.k (p := ⟨ba, 0, none⟩) (fun z => blk_ne HV3.out.k HV3.out.a (by decide) z) _, blk_put HV3.out.a 0 _ rfl, blk_far HV3.out.e (p := ⟨ba, 0, none⟩) hbe _, blk_far HV3.out.b (p := ⟨ba, 0, none⟩) (fun z => HAB.out z.symm) _⟩
      exact ⟨rfl, kb, .inr ⟨j, _, rfl, h5.at_, h5.le, rfl, rfl, hm4.keep k5 HNG.out.1 HNG.out.2.1 HNG.out.2.2.1 HNG.out.2.2.2⟩⟩
theorem must_run {w w1 : World} {A0 : Option Addr} {c0 : Nat} {l : List Int} {e : Int} {K : Nat} (hr0 : Kd.C (Kd.int .u8) w A0 l.length l) (hc0 : l.length ≤ c0) (hb : Bytes l) (he0 : 0 ≤ e) (he1 : e < 256) (hK : K ≤ l.length) (hl : l.length ≤ 200)
    (b1 : Below w.heap.size w w1) (hbe : w1.heap[w.heap.size]? = some (.cells #[.int .u8 e] 5 (0, 0))) :
    Calls Try.prog 15 #[.slice A0 l.length c0, .func (.func 16) #[] #[.pointer (some ⟨w1.heap.size, 0, none⟩), .pointer (some ⟨w1.heap.size + 1 + 1, 0, none⟩), .pointer (some ⟨w.heap.size, 0, none⟩), .pointer (some ⟨w1.heap.size + 1, 0, none⟩)]]
      (((w1.alloc (.cells #[.int .i64 (K : Int)] 3)).alloc (.cells #[.bool false] 4)).alloc (.cells #[.bool false] 4)) fun e' w' => e' = .returned (.tuple #[.int .i64 (K : Int), .int .i64 (1 + e % 17)]) ∧ Below w.heap.size w w' ∧ MustVars w' w1.heap.size (w1.heap.size + 1 + 1) w.heap.size (w1.heap.size + 1) K e true := by
  have hcf : ∀ args w, (callFunc 16 args).run Try.prog w = .ok (.enter 16 args) w := fun _ _ => by kernel_rfl
  have hsz := b1.size
  have hlt : w.heap.size < w1.heap.size := blk_lt hbe
  have hW : MustVars (((w1.alloc (.cells #[.int .i64 (K : Int)] 3)).alloc (.cells #[.bool false] 4)).alloc (.cells #[.bool false] 4)) w1.heap.size (w1.heap.size + 1 + 1) w.heap.size (w1.heap.size + 1) K e false := by
    refine ⟨blk_alloc (blk_alloc (heap_alloc_new _ _) _) _, ?_, blk_alloc (blk_alloc (blk_alloc hbe _) _) _, blk_alloc ?_ _⟩
    · have := heap_alloc_new ((w1.alloc (.cells #[.int .i64 (K : Int)] 3)).alloc (.cells #[.bool false] 4)) (.cells #[.bool false] 4)
      simpa using this
    · have := heap_alloc_new (w1.alloc (.cells #[.int .i64 (K : Int)] 3)) (.cells #[.bool false] 4)
      simpa using this
  have hB : Below w.heap.size w (((w1.alloc (.cells #[.int .i64 (K : Int)] 3)).alloc (.cells #[.bool false] 4)).alloc (.cells #[.bool false] 4)) := below_alloc (below_alloc (below_alloc b1 _) _) _
  have hS : (((w1.alloc (.cells #[.int .i64 (K : Int)] 3)).alloc (.cells #[.bool false] 4)).alloc (.cells #[.bool false] 4)).heap.size = w1.heap.size + 3 := by simp
  refine (run_rd (w0 := w) (l := l) (fun k => k = w1.heap.size + 1 + 1) (fun _ _ _ _ => False) (fun _ _ a er w' => a = K ∧ er = 1 + e % 17 ∧ MustVars w' w1.heap.size (w1.heap.size + 1 + 1) w.heap.size (w1.heap.size + 1) K e true) hB hr0 hc0 hb (by omega) (fun k z => by rw [z, hS]; omega) hcf ?_).mono ?_
  · intro g W1 hr hb h1 h2
    rw [hS] at h1
    exact must_closure hr (hW.keep (Kp.of_below hb (fun _ => False)) (fun z => z) (fun z => z) (fun z => z) (fun z => z)) hK he0 he1 ⟨by omega, by omega, by omega, by omega⟩ (by omega) (by omega)
  · rintro e' w2 ⟨g, h1, a, er, w3, rfl, hg1, hg2, hg3, hkA, hkB, hat, ha, hcase⟩
    obtain ⟨rfl, rfl, hv⟩ := hcase.resolve_left (fun z => z.1)
    rw [hS] at hg1
    refine ⟨rfl, hkA.to_below hB (fun k z => by rw [z]; omega), hv.keep hkB ?_ ?_ ?_ ?_⟩ <;> (rintro ⟨z, _⟩; rw [hS] at z; omega)
set_option maxHeartbeats 4000000 in
theorem readerMust_calls (A0 : Option Addr) (c0 : Nat) (l : List Int) (n e : Int) (w : World) (hr0 : Kd.C (Kd.int .u8) w A0 l.length l) (hc0 : l.length ≤ c0) (hb : Bytes l) (hn0 : 0 ≤ n) (hn1 : n < 256) (he0 : 0 ≤ e) (he1 : e < 256) :
    Calls Try.prog 3 #[.slice A0 l.length c0, .int .u8 n, .int .u8 e] w fun e w' => e = .returned (.bool true) ∧ Below w.heap.size w w' := by
  have hmf := hmf
  have HR := Aside0.mk hr0
  have HB := Aside0.mk hb
  have hl2 : l.length ≤ 9223372036854775807 := hr0.2.1
  clear hr0 hb
  by_cases hbig : 200 < l.length
  · have t1 : decide ((200 : Int) < (l.length : Int)) = true := decide_eq_true (by omega)
    have t2 : decide (200 < l.length) = true := decide_eq_true hbig
    go_enter Try.func3, Try.ntmps3
    go_wp2_with fail
    refine (alive_calls _).mono ?_
    rintro e w1 ⟨rfl, b1⟩
    go_wp2_with fail
    refine (alive_calls _).mono ?_
    rintro e w2 ⟨rfl, b2⟩
    go_wp2
    go_ret
    exact ⟨rfl, below_step (below_step (below_alloc (Below.refl _ _) _) b1) b2⟩
  · have t1 : decide ((200 : Int) < (l.length : Int)) = false := decide_eq_false (by omega)
    have t2 : decide (200 < l.length) = false := decide_eq_false hbig
    have HL := Aside0.mk (show l.length ≤ 200 by omega)
    obtain ⟨m, rfl⟩ := Int.eq_ofNat_of_zero_le hn0
    have fin : ∀ K : Nat, K ≤ l.length → ∀ w1, Below w.heap.size w w1 → w1.heap[w.heap.size]? = some (.cells #[.int .u8 e] 5 (0, 0)) → _ := fun K hK w1 hb1 hbe => must_run HR.out hc0 HB.out he0 he1 hK HL.out hb1 hbe
    have FIN := Aside0.mk fin
    clear fin
    by_cases hle : m ≤ l.length
    all_goals
      go_enter Try.func3, Try.ntmps3
      go_wp2_with fail
      refine (alive_calls _).mono ?_
      rintro e w1 ⟨rfl, b1⟩
      have hbe := blk_below (heap_alloc_new w _) b1
      have HBE := Aside0.mk hbe
      have HB1 := Aside0.mk (below_step (below_alloc (Below.refl w.heap.size w) (.cells #[.int .u8 _] 5)) b1)
      clear hbe b1
      go_wp2_with fail
      refine (FIN.out _ (by omega) w1 HB1.out HBE.out).mono ?_
      rintro e' w2 ⟨rfl, hb2, hv⟩
      have HB2 := Aside0.mk hb2
      have ck := (blk_cell hv.k 0).trans rfl
      have ca := (blk_cell hv.a 0).trans rfl
      have ce := (blk_cell hv.e 0).trans rfl
      have cb := (blk_cell hv.b 0).trans rfl
      simp only [List.getElem?_toArray, List.getElem?_cons_zero] at ck ca ce cb
      clear hv hb2 HB1 HBE
      go_wp2
      go_ret
      exact ⟨by first | rfl | simp, HB2.out⟩
end Go.Proofs.Ytamnnaadnjkdiaa.Rd
