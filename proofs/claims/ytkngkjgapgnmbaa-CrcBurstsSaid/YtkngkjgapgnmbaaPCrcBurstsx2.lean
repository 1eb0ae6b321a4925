-- WRITTEN by a program of this session's own (wip/gen/mkprint.py), over the kit's print: not printed by print.sh itself
import Derived.Test.YtkngkjgapgnmbaaPCrcBurstsx0
import Derived.Test.YtkngkjgapgnmbaaPCrcBurstsx1
namespace Go.Proofs.Ytkngkjgapgnmbaa.PCrcBursts
open Go.RowKit Go.Proofs.YtkngkjgapgnmbaaW.PrintWords Go.Proofs.YtkngkjgapgnmbaaW.PrintLast Go.Proofs.YtkngkjgapgnmbaaW.PrintMore
attribute [local go_sem] max2_int min2_int max_two min_two max_three min_three max_four min_four   -- for this text's walks alone
set_option linter.unusedVariables false
set_option linter.unusedSimpArgs false

/-! ### decklelaw02_CrcBursts: function 8 -/
mutual
def decklelaw02_CrcBursts.j0 : Nat → List Int → Int → Int → List Int → Bool → Option (Bool)
  | 0, _, _, _, _, _ => none
  | k + 1, x0, x1, x2, x7, x29 => if x29 = true then (if (x0.length : Int) > 3000 then ((decklelaw02_alive.f).bind fun t133 => (some t133)) else (if x2 = 0 then ((decklelaw02_alive.f).bind fun t134 => (some t134)) else (none))) else (if (IntKind.u64.wrap (wrap64 ((wrap64 (8 * (x7.length : Int))) - 31))) = 0 then (none) else ((some (([] : List Int) : List Int)).bind fun y135 => (if y135.length + x7.length < 140737488355328 then (decklelaw02_CrcBursts.l0 k x2 (wrap64 (Int.tmod (IntKind.u64.wrap (x1)) (IntKind.u64.wrap (wrap64 ((wrap64 (8 * (x7.length : Int))) - 31))))) (y135 ++ x7) 0) else (none))))
def decklelaw02_CrcBursts.l0 : Nat → Int → Int → List Int → Int → Option (Bool)
  | 0, _, _, _, _ => none
  | k + 1, x2, x8, x9, x52 => if x52 < 32 then (if 0 ≤ x52 then (if (Go.bits .and .u32 (shr .u32 x2 x52) 1) = 1 then (if 0 ≤ (wrap64 (Int.tdiv (wrap64 (x8 + x52)) 8)) then (if (wrap64 (Int.tdiv (wrap64 (x8 + x52)) 8)) < (x9.length : Int) then (if 0 ≤ (Int.tmod (wrap64 (x8 + x52)) 8) then (decklelaw02_CrcBursts.l0 k x2 x8 (x9.set ((wrap64 (Int.tdiv (wrap64 (x8 + x52)) 8)) : Int).toNat (Go.bits .xor .u8 (rd x9 (wrap64 (Int.tdiv (wrap64 (x8 + x52)) 8))) (shl .u8 1 (Int.tmod (wrap64 (x8 + x52)) 8)))) (wrap64 (x52 + 1))) else (none)) else (none)) else (none)) else (decklelaw02_CrcBursts.l0 k x2 x8 x9 (wrap64 (x52 + 1)))) else (none)) else ((crc_Open.f k x9).bind fun bt143 => ((decklelaw02_alive.f).bind fun t147 => (if t147 = true then (some (!bt143.2)) else (none))))
end
def decklelaw02_CrcBursts.f (k : Nat) (l0 : List Int) (a1 : Int) (a2 : Int) : Option (Bool) := (crc_Seal.f k l0).bind fun t130 => (if (l0.length : Int) > 3000 then (decklelaw02_CrcBursts.j0 k l0 a1 a2 t130 true) else (if a2 = 0 then (decklelaw02_CrcBursts.j0 k l0 a1 a2 t130 true) else (decklelaw02_CrcBursts.j0 k l0 a1 a2 t130 ((t130.length : Int) != (wrap64 ((l0.length : Int) + 4))))))
theorem decklelaw02_CrcBursts.mono_l : ∀ k, (∀ y0 y1 y2 y3 y4, LeO (decklelaw02_CrcBursts.j0 k y0 y1 y2 y3 y4) (decklelaw02_CrcBursts.j0 (k + 1) y0 y1 y2 y3 y4)) ∧ (∀ y0 y1 y2 y3, LeO (decklelaw02_CrcBursts.l0 k y0 y1 y2 y3) (decklelaw02_CrcBursts.l0 (k + 1) y0 y1 y2 y3))
  | 0 => ⟨fun _ _ _ _ _ r h => by simp [decklelaw02_CrcBursts.j0] at h, fun _ _ _ _ r h => by simp [decklelaw02_CrcBursts.l0] at h⟩
  | k + 1 => by
    obtain ⟨ih0, ih1⟩ := decklelaw02_CrcBursts.mono_l k
    refine ⟨?_, ?_⟩
    · intro y0 y1 y2 y3 y4
      unfold decklelaw02_CrcBursts.j0
      repeat' first
      | (with_reducible exact ih0 _ _ _ _ _)
      | (with_reducible exact ih1 _ _ _ _)
      | (with_reducible exact crc_Open.mono _ _)
      | (with_reducible exact crc_Seal.mono _ _)
      | (with_reducible exact LeO.refl _)
      | (with_reducible exact LeO.none _)
      | (with_reducible refine LeO.ite ?_ ?_)
      | (with_reducible refine LeO.bind ?_ (fun _ => ?_))
      | exact ih0 _ _ _ _ _
      | exact ih1 _ _ _ _
      | exact crc_Open.mono _ _
      | exact crc_Seal.mono _ _
      | exact LeO.none _
      | refine LeO.ite ?_ ?_
      | refine LeO.bind ?_ (fun _ => ?_)
    · intro y0 y1 y2 y3
      unfold decklelaw02_CrcBursts.l0
      repeat' first
      | (with_reducible exact ih0 _ _ _ _ _)
      | (with_reducible exact ih1 _ _ _ _)
      | (with_reducible exact crc_Open.mono _ _)
      | (with_reducible exact crc_Seal.mono _ _)
      | (with_reducible exact LeO.refl _)
      | (with_reducible exact LeO.none _)
      | (with_reducible refine LeO.ite ?_ ?_)
      | (with_reducible refine LeO.bind ?_ (fun _ => ?_))
      | exact ih0 _ _ _ _ _
      | exact ih1 _ _ _ _
      | exact crc_Open.mono _ _
      | exact crc_Seal.mono _ _
      | exact LeO.none _
      | refine LeO.ite ?_ ?_
      | refine LeO.bind ?_ (fun _ => ?_)
theorem decklelaw02_CrcBursts.mono : ∀ a0 a1 a2 k, LeO (decklelaw02_CrcBursts.f k a0 a1 a2) (decklelaw02_CrcBursts.f (k + 1) a0 a1 a2) := by
  intro a0 a1 a2 k
  obtain ⟨ih0, ih1⟩ := decklelaw02_CrcBursts.mono_l k
  unfold decklelaw02_CrcBursts.f
  repeat' first
      | (with_reducible exact ih0 _ _ _ _ _)
      | (with_reducible exact ih1 _ _ _ _)
      | (with_reducible exact crc_Open.mono _ _)
      | (with_reducible exact crc_Seal.mono _ _)
      | (with_reducible exact LeO.refl _)
      | (with_reducible exact LeO.none _)
      | (with_reducible refine LeO.ite ?_ ?_)
      | (with_reducible refine LeO.bind ?_ (fun _ => ?_))
      | exact ih0 _ _ _ _ _
      | exact ih1 _ _ _ _
      | exact crc_Open.mono _ _
      | exact crc_Seal.mono _ _
      | exact LeO.none _
      | refine LeO.ite ?_ ?_
      | refine LeO.bind ?_ (fun _ => ?_)
def decklelaw02_CrcBursts.T10 : Bool × List (List Nat × List Nat) := (true, [([], []), ([], []), ([], []), ([1, 2], [1, 2]), ([3], [3]), ([0, 4], [0, 4]), ([5], [5]), ([], []), ([], []), ([7, 8], [7, 8]), ([9], [9]), ([10], [10]), ([6, 11], [6, 11]), ([0, 4, 0, 1, 2, 3, 4, 5, 6, 7, 8, 9, 10, 11, 12], [0, 4]), ([13, 12, 0, 1, 2, 3, 4, 5, 6, 7, 8, 9, 10, 11, 12], [12, 13])])
def decklelaw02_CrcBursts.B10 : List Nat := [0, 0, 0, 6, 14, 31, 63, 0, 0, 384, 896, 1920, 4095, 8191, 16383]
theorem decklelaw02_CrcBursts.tab10 : rtab .any (opsOf Try.f8 10) = decklelaw02_CrcBursts.T10 := by kernel_rfl
theorem decklelaw02_CrcBursts.bits10 : waitsOk decklelaw02_CrcBursts.T10.2 decklelaw02_CrcBursts.B10 = true := by kernel_rfl
set_option maxHeartbeats 8000000 in
set_option maxRecDepth 100000 in
theorem decklelaw02_CrcBursts.calls (k : Nat) (A0 : Option Addr) (c0 : Nat) (l0 : List Int) (a1 : Int) (a2 : Int) (r : Bool) (w : World) (hr0 : Kd.C (Kd.int .u8) w A0 l0.length l0) (hc0 : l0.length ≤ c0) (h : decklelaw02_CrcBursts.f k l0 a1 a2 = some r) :
    Calls Try.prog 8 #[.slice A0 l0.length c0, .int .i64 a1, .int .u32 a2] w fun e w' => e = .returned (.bool r) ∧ Below w.heap.size w w' := by
  have HR0 := Aside0.mk hr0
  have HC0 := Aside0.mk hc0
  clear hr0 hc0
  have HB := Aside0.mk (Below.refl w.heap.size w)
  have H : ((crc_Seal.f k l0).bind fun t130 => (if (l0.length : Int) > 3000 then (decklelaw02_CrcBursts.j0 k l0 a1 a2 t130 true) else (if a2 = 0 then (decklelaw02_CrcBursts.j0 k l0 a1 a2 t130 true) else (decklelaw02_CrcBursts.j0 k l0 a1 a2 t130 ((t130.length : Int) != (wrap64 ((l0.length : Int) + 4))))))) = some r := h
  clear h
  replace H := Option.bind_eq_some_iff.mp H
  obtain ⟨t130, A40, H⟩ := H
  replace H : (if (l0.length : Int) > 3000 then (decklelaw02_CrcBursts.j0 k l0 a1 a2 t130 true) else (if a2 = 0 then (decklelaw02_CrcBursts.j0 k l0 a1 a2 t130 true) else (decklelaw02_CrcBursts.j0 k l0 a1 a2 t130 ((t130.length : Int) != (wrap64 ((l0.length : Int) + 4)))))) = some r := H
  have A4 := Aside0.mk A40
  clear A40
  have HC5 := Aside0.mk H
  clear H
  go_enter Try.func8, Try.ntmps8
  go_upto_region 2 with (first | ((with_reducible refine gate_callee (f := 21) rfl ?_); refine goesL_ (some 14) rfl rfl Try.func21 (by kernel_rfl) rfl #[.slice A0 l0.length c0] rfl (by (try simp only [List.map_toArray, List.map_cons, List.map_nil]); first | done | rfl | (simp only [List.length_drop, List.length_take]; rfl)) ?_; (with_reducible refine (crc_Seal.calls k _ _ l0 t130 _ ?side1 ?side2 A4.out).mono ?_); (case side1 => repeat (first | exact HR0.out | (with_reducible refine Kd.C_alloc ?_ _) | (with_reducible refine Kd.C_drewN ?_ _) | (with_reducible refine Kd.C_drew ?_))); (case side2 => exact HC0.out); rintro e w6 ⟨v131, rfl, ho0, hb⟩; refine ⟨_, rfl, ?_⟩; have n0_ := Aside0.mk (Kd.R_lower ho0 (below_size (by repeat (first | (with_reducible first | exact HB.out | apply below_alloc | apply pw_below_drewN | apply below_drew1) | exact HB.out)))); have n1_ := Aside0.mk (below_step (by repeat (first | (with_reducible first | exact HB.out | apply below_alloc | apply pw_below_drewN | apply below_drew1) | exact HB.out)) hb); clear HB; have HO132 := n0_; have HB := n1_; clear n0_ n1_; (try clear hb); (try clear hb2); (try clear hk); (try clear hi); (try clear ho0)))
  (try simp only [Act.put, List.setIfInBounds_toArray, List.set_cons_zero, List.set_cons_succ])
  go_cut [29] (fun v29 wc => ∃ (kq : Nat) (x29_4 : Bool), v29 = .bool x29_4 ∧ Aside0 (decklelaw02_CrcBursts.j0 kq l0 a1 a2 t130 x29_4 = some r) ∧ Aside0 (kq ≤ k) ∧ Aside0 (Kd.R (Kd.int .u8) 5 wc w.heap.size (fun _ => True) v131 t130) ∧ Aside0 (Below w.heap.size w wc))
  case first =>
    have H := HC5.out
    clear HC5
    by_cases c7 : (l0.length : Int) > 3000
    · rw [if_pos c7] at H
      have c7b0 : decide (3000 < (l0.length : Int)) = true := decide_eq_true c7
      have c7b1 : decide (3000 < l0.length) = true := decide_eq_true (by omega)
      clear c7
      (first | rw [c7b0] | (simp only [i64_w, i32_w]; rw [c7b0]) | skip)
      have H' := Aside0.mk H
      clear H
      go_wp2
      go_meet
      case rel => exact ⟨_, (true), (by first | rfl | (simp; done) | (simp [*]; done)), H', ⟨by first | omega | exact Nat.le_refl _⟩, ⟨by (with_reducible repeat (first | apply Kd.R_alloc | apply Kd.R_drewN | apply Kd.R_drew)); exact HO132.out⟩, ⟨by repeat (first | (with_reducible first | exact HB.out | apply below_alloc | apply pw_below_drewN | apply below_drew1) | exact HB.out)⟩⟩
    · rw [if_neg c7] at H
      have c7b0 : decide (3000 < (l0.length : Int)) = false := decide_eq_false c7
      have c7b1 : decide (3000 < l0.length) = false := decide_eq_false (by omega)
      clear c7
      (first | rw [c7b0] | (simp only [i64_w, i32_w]; rw [c7b0]) | skip)
      by_cases c8 : a2 = 0
      · rw [if_pos c8] at H
        have c8b0 : (a2 == 0) = true := beq_iff_eq.mpr c8
        have c8b1 : (a2 != 0) = false := bne_eq_false_iff_eq.mpr c8
        clear c8
        have H' := Aside0.mk H
        clear H
        go_wp2
        go_meet
        case rel => exact ⟨_, (true), (by first | rfl | (simp; done) | (simp [*]; done)), H', ⟨by first | omega | exact Nat.le_refl _⟩, ⟨by (with_reducible repeat (first | apply Kd.R_alloc | apply Kd.R_drewN | apply Kd.R_drew)); exact HO132.out⟩, ⟨by repeat (first | (with_reducible first | exact HB.out | apply below_alloc | apply pw_below_drewN | apply below_drew1) | exact HB.out)⟩⟩
      · rw [if_neg c8] at H
        have c8b0 : (a2 == 0) = false := beq_eq_false_iff_ne.mpr c8
        have c8b1 : (a2 != 0) = true := bne_iff_ne.mpr c8
        have H' := Aside0.mk H
        clear H
        obtain ⟨Ao9, co9, eo9⟩ := Kd.R_slice HO132.out
        subst eo9
        go_wp2
        go_meet
        case rel => exact ⟨_, (((t130.length : Int) != (wrap64 ((l0.length : Int) + 4)))), (by first | rfl | (simp; done) | (simp [*]; done)), H', ⟨by first | omega | exact Nat.le_refl _⟩, ⟨by (with_reducible repeat (first | apply Kd.R_alloc | apply Kd.R_drewN | apply Kd.R_drew)); exact HO132.out⟩, ⟨by repeat (first | (with_reducible first | exact HB.out | apply below_alloc | apply pw_below_drewN | apply below_drew1) | exact HB.out)⟩⟩
  case rest =>
    clear HC5
    try clear c2
    try clear p2
    try clear p6
    try clear c7
    try clear c7b0
    try clear c7b1
    try clear c8
    try clear c8b0
    try clear c8b1
    obtain ⟨kq, x29_4, rfl, HA, HJ4, HO_7, HB⟩ := hcut
    cases kq with
    | zero => exact absurd HA.out (by simp [decklelaw02_CrcBursts.j0])
    | succ kj4 =>
      have H := HA.out
      clear HA
      simp only [decklelaw02_CrcBursts.j0] at H
      by_cases c10 : x29_4 = true
      · subst c10
        have H1 : (if (l0.length : Int) > 3000 then ((decklelaw02_alive.f).bind fun t133 => (some t133)) else (if a2 = 0 then ((decklelaw02_alive.f).bind fun t134 => (some t134)) else (none))) = some r := by rw [if_pos rfl] at H; exact H
        clear H
        have H := H1
        clear H1
        by_cases c11 : (l0.length : Int) > 3000
        · rw [if_pos c11] at H
          have c11b0 : decide (3000 < (l0.length : Int)) = true := decide_eq_true c11
          have c11b1 : decide (3000 < l0.length) = true := decide_eq_true (by omega)
          clear c11
          replace H := Option.bind_eq_some_iff.mp H
          obtain ⟨t133, A120, H⟩ := H
          replace H : (some t133) = some r := H
          have A12 := Aside0.mk A120
          clear A120
          obtain rfl := Option.some.inj H
          go_wp2_with (first | (go_at_call 15; (with_reducible refine (decklelaw02_alive.calls  t133 _ A12.out).mono ?_); rintro e w13 ⟨rfl, hb⟩; have n0_ := Aside0.mk (Kd.R_below (by (with_reducible repeat (first | apply Kd.R_alloc | apply Kd.R_drewN | apply Kd.R_drew)); exact HO_7.out) hb); have n1_ := Aside0.mk (below_step (by repeat (first | (with_reducible first | exact HB.out | apply below_alloc | apply pw_below_drewN | apply below_drew1) | exact HB.out)) hb); clear HO_7; clear HB; have HO_7 := n0_; have HB := n1_; clear n0_ n1_; (try clear hb); (try clear hb2); (try clear hk); (try clear hi)))
          go_ret
          exact ⟨by first | rfl | (simp [errW_none, errW_some] <;> rfl) | (simp [*, errW_none, errW_some] <;> rfl), by repeat (first | (with_reducible first | exact HB.out | apply below_alloc | apply pw_below_drewN | apply below_drew1) | exact HB.out)⟩
        · rw [if_neg c11] at H
          have c11b0 : decide (3000 < (l0.length : Int)) = false := decide_eq_false c11
          have c11b1 : decide (3000 < l0.length) = false := decide_eq_false (by omega)
          clear c11
          by_cases c14 : a2 = 0
          · rw [if_pos c14] at H
            have c14b0 : (a2 == 0) = true := beq_iff_eq.mpr c14
            have c14b1 : (a2 != 0) = false := bne_eq_false_iff_eq.mpr c14
            clear c14
            replace H := Option.bind_eq_some_iff.mp H
            obtain ⟨t134, A150, H⟩ := H
            replace H : (some t134) = some r := H
            have A15 := Aside0.mk A150
            clear A150
            obtain rfl := Option.some.inj H
            go_wp2_with (first | (go_at_call 15; (with_reducible refine (decklelaw02_alive.calls  t134 _ A15.out).mono ?_); rintro e w16 ⟨rfl, hb⟩; have n0_ := Aside0.mk (Kd.R_below (by (with_reducible repeat (first | apply Kd.R_alloc | apply Kd.R_drewN | apply Kd.R_drew)); exact HO_7.out) hb); have n1_ := Aside0.mk (below_step (by repeat (first | (with_reducible first | exact HB.out | apply below_alloc | apply pw_below_drewN | apply below_drew1) | exact HB.out)) hb); clear HO_7; clear HB; have HO_7 := n0_; have HB := n1_; clear n0_ n1_; (try clear hb); (try clear hb2); (try clear hk); (try clear hi)))
            go_ret
            exact ⟨by first | rfl | (simp [errW_none, errW_some] <;> rfl) | (simp [*, errW_none, errW_some] <;> rfl), by repeat (first | (with_reducible first | exact HB.out | apply below_alloc | apply pw_below_drewN | apply below_drew1) | exact HB.out)⟩
          · rw [if_neg c14] at H
            exact absurd H (by simp)
      · replace c10 := Bool.eq_false_iff.mpr c10
        subst c10
        have H1 : (if (IntKind.u64.wrap (wrap64 ((wrap64 (8 * (t130.length : Int))) - 31))) = 0 then (none) else ((some (([] : List Int) : List Int)).bind fun y135 => (if y135.length + t130.length < 140737488355328 then (decklelaw02_CrcBursts.l0 kj4 a2 (wrap64 (Int.tmod (IntKind.u64.wrap (a1)) (IntKind.u64.wrap (wrap64 ((wrap64 (8 * (t130.length : Int))) - 31))))) (y135 ++ t130) 0) else (none)))) = some r := by rw [if_neg (show ¬ (false = true) by decide)] at H; exact H
        clear H
        have H := H1
        clear H1
        by_cases c17 : (IntKind.u64.wrap (wrap64 ((wrap64 (8 * (t130.length : Int))) - 31))) = 0
        · rw [if_pos c17] at H
          exact absurd H (by simp)
        · rw [if_neg c17] at H
          have c17b0 : ((IntKind.u64.wrap (wrap64 ((wrap64 (8 * (t130.length : Int))) - 31))) == 0) = false := beq_eq_false_iff_ne.mpr c17
          have c17b1 : ((IntKind.u64.wrap (wrap64 ((wrap64 (8 * (t130.length : Int))) - 31))) != 0) = true := bne_iff_ne.mpr c17
          obtain ⟨y135, hy135⟩ : ∃ y_ : List Int, y_ = (([] : List Int)) := ⟨_, rfl⟩
          replace H : (if y135.length + t130.length < 140737488355328 then (decklelaw02_CrcBursts.l0 kj4 a2 (wrap64 (Int.tmod (IntKind.u64.wrap (a1)) (IntKind.u64.wrap (wrap64 ((wrap64 (8 * (t130.length : Int))) - 31))))) (y135 ++ t130) 0) else (none)) = some r := by first | (rw [hy135]; with_reducible exact H) | (have H2_ := (Option.bind_some _ _).symm.trans H; rw [hy135]; with_reducible exact H2_) | (have H2_ := (Option.bind_some _ _).symm.trans H; with_reducible exact H2_) | with_reducible exact H | (rw [hy135]; exact H) | exact H
          have Ny135 := Aside0.mk hy135
          clear hy135
          by_cases c18 : y135.length + t130.length < 140737488355328
          · rw [if_pos c18] at H
            have LMc18 := Aside0.mk c18
            clear c18
            obtain ⟨y138, hy138⟩ : ∃ y_ : List Int, y_ = (y135 ++ t130) := ⟨_, rfl⟩
            replace H : (decklelaw02_CrcBursts.l0 kj4 a2 (wrap64 (Int.tmod (IntKind.u64.wrap (a1)) (IntKind.u64.wrap (wrap64 ((wrap64 (8 * (t130.length : Int))) - 31))))) y138 0) = some r := by first | (rw [hy138]; with_reducible exact H) | (have H2_ := (Option.bind_some _ _).symm.trans H; rw [hy138]; with_reducible exact H2_) | (have H2_ := (Option.bind_some _ _).symm.trans H; with_reducible exact H2_) | with_reducible exact H | (rw [hy138]; exact H) | exact H
            have Ny138 := Aside0.mk hy138
            clear hy138
            have H' := Aside0.mk H
            clear H
            obtain ⟨Ao19, co19, eo19⟩ := Kd.R_slice HO_7.out
            subst eo19
            go_wp2_with (first | ((with_reducible refine gate_dst (N := 49) rfl ?_); (try (refine gate_guard (by rfl) ?_; dsimp only)); refine Kd.R_lit (Kd.int .u8) _ 5 ?hg (N := 49) ?hd (xs := ([] : List Int)) (inner := []) (ok := fun _ => True) (okp := fun _ => True) ?hr ?hp (fun _ hk => hk) trivial (Below.refl _ _) (Nat.le_refl _) (by simp) ?_; (case hd => rfl); (case hg => rfl); (case hr => first | (go_simp; done) | (go_simp; rfl)); (case hp => exact (Reps.none _ _)); intro v136 w20 ho21 hb hg_ hnew_; clear hg_ hnew_; (first | rw [← Ny135.out] at ho21 | (simp only [Int.reduceToNat] at ho21; rw [← Ny135.out] at ho21)); have n0_ := Aside0.mk (Kd.R_elder' (by (with_reducible repeat (first | apply Kd.R_alloc | apply Kd.R_drewN | apply Kd.R_drew)); exact HO_7.out) (Kd.R_base ho21) hb); have n1_ := Aside0.mk (Kd.R_lower (Kd.R_new' ho21 (Kd.R_lt (by (with_reducible repeat (first | apply Kd.R_alloc | apply Kd.R_drewN | apply Kd.R_drew)); exact HO_7.out))) (below_size (by repeat (first | (with_reducible first | exact HB.out | apply below_alloc | apply pw_below_drewN | apply below_drew1) | exact HB.out)))); have n2_ := Aside0.mk (below_step (by repeat (first | (with_reducible first | exact HB.out | apply below_alloc | apply pw_below_drewN | apply below_drew1) | exact HB.out)) hb); clear HO_7; clear HB; have HO_7 := n0_; have HO137 := n1_; have HB := n2_; clear n0_ n1_ n2_; clear hb ho21) | ((with_reducible refine gate_builtin (b := .append) (xs := #[.tmp 49, .tmp 50]) rfl ?_); (try (refine gate_guard (by rfl) ?_; dsimp only)); at_builtin; refine Kd.R_append_rows (Kd.int .u8) (w0 := w) w.heap.size rfl (.tmp 49) (.tmp 50) 22 5 (.int .u8 0) 1 rfl Try.underlying22 info5 rfl (by decide) (by omega) v136 y135 t130 _ _ _ (fun k_ => some k_ ≠ (.slice Ao19 t130.length co19 : Value).ownBlock) (fun _ => False) rfl rfl ?aO ?aR (fun _ _ h => h) (fun _ h => h.elim) ?aF ?aB ?aS ?aL ?_; (case aR => repeat (first | exact (Kd.R_reads' HO_7.out).2.2 | (with_reducible refine Kd.C_alloc ?_ _) | (with_reducible refine Kd.C_drewN ?_ _) | (with_reducible refine Kd.C_drew ?_))); (case aB => exact (by repeat (first | (with_reducible first | exact HB.out | apply below_alloc | apply pw_below_drewN | apply below_drew1) | exact HB.out))); (case aF => exact (fun k_ hk => Kd.fresh' (Kd.R_lt (by (with_reducible repeat (first | apply Kd.R_alloc | apply Kd.R_drewN | apply Kd.R_drew)); exact HO_7.out)) k_ hk)); (case aO => exact (by (with_reducible repeat (first | apply Kd.R_alloc | apply Kd.R_drewN | apply Kd.R_drew)); exact Kd.R_mono HO137.out (fun _ hk => hk.2))); (case aS => exact (below_size (by repeat (first | (with_reducible first | exact HB.out | apply below_alloc | apply pw_below_drewN | apply below_drew1) | exact HB.out)))); (case aL => have := LMc18.out; omega); intro v139 w22 ho hb hg hat; rw [← Ny138.out] at ho; have n0_ := Aside0.mk (Kd.R_after (ok := (fun _ => True)) (by (with_reducible repeat (first | apply Kd.R_alloc | apply Kd.R_drewN | apply Kd.R_drew)); exact HO_7.out) hg hat); have n1_ := Aside0.mk (hb); have n2_ := Aside0.mk (ho); clear HO_7; clear HB; clear HO137; have HO_7 := n0_; have HB := n1_; have HO140 := n2_; clear n0_ n1_ n2_; clear ho hb hg hat))
            go_loopg [52] kj4 (fun kq v52 w' => ∃ (x9_2 : List Int) (x52_2 : Int), v52 = .int .i64 x52_2 ∧ Aside0 (decklelaw02_CrcBursts.l0 kq a2 (wrap64 (Int.tmod (IntKind.u64.wrap (a1)) (IntKind.u64.wrap (wrap64 ((wrap64 (8 * (t130.length : Int))) - 31))))) x9_2 x52_2 = some r) ∧ Aside0 (kq ≤ kj4) ∧ Aside0 (Kd.R (Kd.int .u8) 5 w' w.heap.size (fun _ => True) v139 x9_2) ∧ Aside0 (Below w.heap.size w w'))
            case atStart => exact ⟨(y138), (0), (by first | rfl | (simp; done) | (simp [*]; done)), H', ⟨Nat.le_refl _⟩, ⟨by (with_reducible repeat (first | apply Kd.R_alloc | apply Kd.R_drewN | apply Kd.R_drew)); exact Kd.R_mono HO140.out (fun _ hk => trivial)⟩, ⟨by repeat (first | (with_reducible first | exact HB.out | apply below_alloc | apply pw_below_drewN | apply below_drew1) | exact HB.out)⟩⟩
            case round =>
              clear H'
              try clear c1
              try clear c2
              try clear p2
              try clear p6
              try clear c7
              try clear c7b0
              try clear c7b1
              try clear c8
              try clear c8b0
              try clear c8b1
              try clear c10
              try clear c11
              try clear c11b0
              try clear c11b1
              try clear c14
              try clear c14b0
              try clear c14b1
              try clear c17
              try clear c17b0
              try clear c17b1
              try clear c18
              try clear c21
              try clear p2
              try clear p6
              obtain ⟨x9_2, x52_2, rfl, HA, HK2, HO_9, HB⟩ := hrel
              cases gk with
              | zero => exact absurd HA.out (by simp [decklelaw02_CrcBursts.l0])
              | succ k2 =>
                have H := HA.out
                clear HA
                simp only [decklelaw02_CrcBursts.l0] at H
                by_cases c23 : x52_2 < 32
                · rw [if_pos c23] at H
                  have c23b0 : decide (x52_2 < 32) = true := decide_eq_true c23
                  clear c23
                  by_cases c24 : 0 ≤ x52_2
                  · rw [if_pos c24] at H
                    have c24b0 := eq_true c24
                    have c24b1 : decide (0 ≤ x52_2) = true := decide_eq_true c24
                    clear c24
                    obtain ⟨ji25, hji25⟩ : ∃ j_ : Int, (shr .u32 a2 x52_2) = j_ := ⟨_, rfl⟩
                    replace H : (if (Go.bits .and .u32 (ji25) 1) = 1 then (if 0 ≤ (wrap64 (Int.tdiv (wrap64 ((wrap64 (Int.tmod (IntKind.u64.wrap (a1)) (IntKind.u64.wrap (wrap64 ((wrap64 (8 * (t130.length : Int))) - 31))))) + x52_2)) 8)) then (if (wrap64 (Int.tdiv (wrap64 ((wrap64 (Int.tmod (IntKind.u64.wrap (a1)) (IntKind.u64.wrap (wrap64 ((wrap64 (8 * (t130.length : Int))) - 31))))) + x52_2)) 8)) < (x9_2.length : Int) then (if 0 ≤ (Int.tmod (wrap64 ((wrap64 (Int.tmod (IntKind.u64.wrap (a1)) (IntKind.u64.wrap (wrap64 ((wrap64 (8 * (t130.length : Int))) - 31))))) + x52_2)) 8) then (decklelaw02_CrcBursts.l0 k2 a2 (wrap64 (Int.tmod (IntKind.u64.wrap (a1)) (IntKind.u64.wrap (wrap64 ((wrap64 (8 * (t130.length : Int))) - 31))))) (x9_2.set ((wrap64 (Int.tdiv (wrap64 ((wrap64 (Int.tmod (IntKind.u64.wrap (a1)) (IntKind.u64.wrap (wrap64 ((wrap64 (8 * (t130.length : Int))) - 31))))) + x52_2)) 8)) : Int).toNat (Go.bits .xor .u8 (rd x9_2 (wrap64 (Int.tdiv (wrap64 ((wrap64 (Int.tmod (IntKind.u64.wrap (a1)) (IntKind.u64.wrap (wrap64 ((wrap64 (8 * (t130.length : Int))) - 31))))) + x52_2)) 8))) (shl .u8 1 (Int.tmod (wrap64 ((wrap64 (Int.tmod (IntKind.u64.wrap (a1)) (IntKind.u64.wrap (wrap64 ((wrap64 (8 * (t130.length : Int))) - 31))))) + x52_2)) 8)))) (wrap64 (x52_2 + 1))) else (none)) else (none)) else (none)) else (decklelaw02_CrcBursts.l0 k2 a2 (wrap64 (Int.tmod (IntKind.u64.wrap (a1)) (IntKind.u64.wrap (wrap64 ((wrap64 (8 * (t130.length : Int))) - 31))))) x9_2 (wrap64 (x52_2 + 1)))) = some r := by first | (rw [hji25] at H; exact H) | (simp only [hji25] at H ⊢; exact H)
                    have hji25_ : (a2 / 2 ^ min x52_2.toNat 32) = ji25 := hji25
                    have hji25z : x52_2 ≤ 32 → (a2 / 2 ^ x52_2.toNat) = ji25 := shr_small hji25
                    by_cases c26 : (Go.bits .and .u32 (ji25) 1) = 1
                    · rw [if_pos c26] at H
                      have c26b0 : ((Go.bits .and .u32 (ji25) 1) == 1) = true := beq_iff_eq.mpr c26
                      have c26b1 : ((Go.bits .and .u32 (ji25) 1) != 1) = false := bne_eq_false_iff_eq.mpr c26
                      clear c26
                      obtain ⟨ji27, hji27⟩ : ∃ j_ : Int, (wrap64 (Int.tdiv (wrap64 ((wrap64 (Int.tmod (IntKind.u64.wrap (a1)) (IntKind.u64.wrap (wrap64 ((wrap64 (8 * (t130.length : Int))) - 31))))) + x52_2)) 8)) = j_ := ⟨_, rfl⟩
                      replace H : (if 0 ≤ (ji27) then (if (ji27) < (x9_2.length : Int) then (if 0 ≤ (Int.tmod (wrap64 ((wrap64 (Int.tmod (IntKind.u64.wrap (a1)) (IntKind.u64.wrap (wrap64 ((wrap64 (8 * (t130.length : Int))) - 31))))) + x52_2)) 8) then (decklelaw02_CrcBursts.l0 k2 a2 (wrap64 (Int.tmod (IntKind.u64.wrap (a1)) (IntKind.u64.wrap (wrap64 ((wrap64 (8 * (t130.length : Int))) - 31))))) (x9_2.set ((ji27) : Int).toNat (Go.bits .xor .u8 (rd x9_2 (ji27)) (shl .u8 1 (Int.tmod (wrap64 ((wrap64 (Int.tmod (IntKind.u64.wrap (a1)) (IntKind.u64.wrap (wrap64 ((wrap64 (8 * (t130.length : Int))) - 31))))) + x52_2)) 8)))) (wrap64 (x52_2 + 1))) else (none)) else (none)) else (none)) = some r := by first | (rw [hji27] at H; exact H) | (simp only [hji27] at H ⊢; exact H)
                      have hji27w : (IntKind.i64.wrap (Int.tdiv (wrap64 ((wrap64 (Int.tmod (IntKind.u64.wrap (a1)) (IntKind.u64.wrap (wrap64 ((wrap64 (8 * (t130.length : Int))) - 31))))) + x52_2)) 8)) = ji27 := (i64_w _).trans hji27
                      by_cases c28 : 0 ≤ (ji27)
                      · rw [if_pos c28] at H
                        have c28b0 : decide (0 ≤ (ji27)) = true := decide_eq_true c28
                        clear c28
                        by_cases c29 : (ji27) < (x9_2.length : Int)
                        · rw [if_pos c29] at H
                          have c29b0 : decide ((ji27) < (x9_2.length : Int)) = true := decide_eq_true c29
                          clear c29
                          obtain ⟨ji30, hji30⟩ : ∃ j_ : Int, (Int.tmod (wrap64 ((wrap64 (Int.tmod (IntKind.u64.wrap (a1)) (IntKind.u64.wrap (wrap64 ((wrap64 (8 * (t130.length : Int))) - 31))))) + x52_2)) 8) = j_ := ⟨_, rfl⟩
                          replace H : (if 0 ≤ (ji30) then (decklelaw02_CrcBursts.l0 k2 a2 (wrap64 (Int.tmod (IntKind.u64.wrap (a1)) (IntKind.u64.wrap (wrap64 ((wrap64 (8 * (t130.length : Int))) - 31))))) (x9_2.set ((ji27) : Int).toNat (Go.bits .xor .u8 (rd x9_2 (ji27)) (shl .u8 1 (ji30)))) (wrap64 (x52_2 + 1))) else (none)) = some r := by first | (rw [hji30] at H; exact H) | (simp only [hji30] at H ⊢; exact H)
                          by_cases c31 : 0 ≤ (ji30)
                          · rw [if_pos c31] at H
                            have c31b0 := eq_true c31
                            have c31b1 : decide (0 ≤ (ji30)) = true := decide_eq_true c31
                            clear c31
                            obtain ⟨ji32, hji32⟩ : ∃ j_ : Int, (shl .u8 1 (ji30)) = j_ := ⟨_, rfl⟩
                            replace H : (decklelaw02_CrcBursts.l0 k2 a2 (wrap64 (Int.tmod (IntKind.u64.wrap (a1)) (IntKind.u64.wrap (wrap64 ((wrap64 (8 * (t130.length : Int))) - 31))))) (x9_2.set ((ji27) : Int).toNat (Go.bits .xor .u8 (rd x9_2 (ji27)) (ji32))) (wrap64 (x52_2 + 1))) = some r := by first | (rw [hji32] at H; exact H) | (simp only [hji32] at H ⊢; exact H)
                            have hji32_ : (IntKind.u8.wrap (1 * 2 ^ min (ji30).toNat 8)) = ji32 := hji32
                            have hji32z : (ji30) ≤ 8 → (IntKind.u8.wrap (1 * 2 ^ (ji30).toNat)) = ji32 := shl_small hji32
                            have hji32u : (IntKind.u8.wrap (2 ^ min (ji30).toNat 8)) = ji32 := by have h_ := hji32_; rw [Int.one_mul] at h_; exact h_
                            have hji32v : (ji30) ≤ 8 → (IntKind.u8.wrap (2 ^ (ji30).toNat)) = ji32 := fun hle_ => by have h_ := hji32z hle_; rw [Int.one_mul] at h_; exact h_
                            obtain ⟨y142, hy142⟩ : ∃ y_ : List Int, y_ = (x9_2.set ((ji27) : Int).toNat (Go.bits .xor .u8 (rd x9_2 (ji27)) (ji32))) := ⟨_, rfl⟩
                            replace H : (decklelaw02_CrcBursts.l0 k2 a2 (wrap64 (Int.tmod (IntKind.u64.wrap (a1)) (IntKind.u64.wrap (wrap64 ((wrap64 (8 * (t130.length : Int))) - 31))))) y142 (wrap64 (x52_2 + 1))) = some r := by first | (rw [hy142]; with_reducible exact H) | (have H2_ := (Option.bind_some _ _).symm.trans H; rw [hy142]; with_reducible exact H2_) | (have H2_ := (Option.bind_some _ _).symm.trans H; with_reducible exact H2_) | with_reducible exact H | (rw [hy142]; exact H) | exact H
                            have Ny142 := Aside0.mk hy142
                            clear hy142
                            have H' := Aside0.mk H
                            clear H
                            try go_wp2
                            have n0_ := Aside0.mk (Kd.R_drew HO_9.out)
                            have n1_ := Aside0.mk (below_drew1 HB.out)
                            clear HO_9
                            clear HB
                            have HO_9 := n0_
                            have HB := n1_
                            clear n0_ n1_
                            obtain ⟨Ao35, co35, eo35⟩ := Kd.R_slice HO_9.out
                            (first | subst eo35 | (injection eo35 with f1_ f2_ f3_; have f4_ := f1_.symm; have f5_ := f3_.symm; clear f1_ f2_ f3_; subst f4_; subst f5_))
                            have p141 : 0 ≤ ((ji27) : Int) := of_decide_eq_true (by first | (with_reducible assumption) | assumption)
                            have q141 : (ji27) < (x9_2.length : Int) := of_decide_eq_true (by first | (with_reducible assumption) | assumption)
                            obtain ⟨ad141, e141, hx141_0⟩ := Kd.at_int (Kd.R_reads' HO_9.out).2.2 (ji27) p141 q141
                            cases e141
                            replace p141 := eq_true p141
                            replace q141 := eq_true q141
                            have p33 : 0 ≤ ((ji27) : Int) := of_decide_eq_true (by first | (with_reducible assumption) | assumption)
                            have q33 : ((ji27) : Int) < ((x9_2.length : Int) : Int) := of_decide_eq_true (by first | (with_reducible assumption) | assumption)
                            obtain ⟨go33, co33, eo33, gb33, gl33, cl33, HG33⟩ := Kd.R_form HO_9.out (by omega)
                            (first | cases eo33 | (injection eo33 with ea_ en_ ec_; (first | subst ea_ | (injection ea_ with ea_; subst ea_)); subst ec_; clear en_))
                            have GB33 := Aside0.mk gb33
                            have GG33 := Aside0.mk HG33
                            clear gb33 gl33 HG33
                            (first | simp only [add_plain] at hx141_0 | skip)
                            obtain ⟨hx33_0, hf33_0⟩ := Kd.R_celln 0 HO_9.out ((ji27) : Int) p33 q33
                            replace p33 := eq_true p33
                            replace q33 := eq_true q33
                            have HP36 := Kd.R_putn HO_9.out ((ji27) : Int) (Go.bits .xor .u8 (rd x9_2 (ji27)) (ji32))
                            rw [← Ny142.out] at HP36
                            have HQ36 := Aside0.mk HP36
                            clear HP36
                            refine start_ (n := 15) (S := fun w' => w'.cell? ⟨go33, ((ji27)).toNat, none⟩ = some (.int .u8 (rd x9_2 (ji27)))) (ds := [14]) #[false, false, false, false, false, false, false, false, false, false, false, false, false, false, false] (by kernel_rfl) rfl rfl (hx141_0) (fun hHeld => ?_); refine with_tabW decklelaw02_CrcBursts.tab10 decklelaw02_CrcBursts.bits10 (fun HT_ HW_ => ?_)
                            generalize wr.drew = w34 at HO_9 HB GG33 HQ36 hf33_0 hx141_0 hx33_0 hHeld ⊢
                            refine pure_ (i := 0) (N := some 60) (v := ?_) (a' := ?_) #[true, false, false, false, false, false, false, false, false, false, false, false, false, false, false] rfl rfl (any_of HT_.out (by kernel_rfl)) (fun _ _ _ h => h) (Or.inl ⟨by rfl, ?_⟩) ?_ ?_
                            rotate_left
                            · intro w'
                              go_simp
                              with_reducible rfl
                            rotate_left
                            · simp only [Act.put, List.setIfInBounds_toArray, List.set_cons_zero, List.set_cons_succ, i64_w, i32_w]
                              rfl
                            refine pure_ (i := 1) (N := some 61) (v := ?_) (a' := ?_) #[true, true, false, false, false, false, false, false, false, false, false, false, false, false, false] rfl rfl (any_of HT_.out (by kernel_rfl)) (fun _ _ _ h => h) (Or.inl ⟨by rfl, ?_⟩) ?_ ?_
                            rotate_left
                            · intro w'
                              go_simp
                              with_reducible rfl
                            rotate_left
                            · simp only [Act.put, List.setIfInBounds_toArray, List.set_cons_zero, List.set_cons_succ, i64_w, i32_w]
                              rfl
                            refine pure_ (i := 2) (N := some 62) (v := ?_) (a' := ?_) #[true, true, true, false, false, false, false, false, false, false, false, false, false, false, false] rfl rfl (any_of HT_.out (by kernel_rfl)) (fun _ _ _ h => h) (Or.inl ⟨by rfl, ?_⟩) ?_ ?_
                            rotate_left
                            · intro w'
                              go_simp
                              with_reducible rfl
                            rotate_left
                            · simp only [Act.put, List.setIfInBounds_toArray, List.set_cons_zero, List.set_cons_succ, i64_w, i32_w]
                              rfl
                            refine pure_ (i := 3) (N := some 63) (v := ?_) (a' := ?_) #[true, true, true, true, false, false, false, false, false, false, false, false, false, false, false] rfl rfl (any_of HT_.out (by kernel_rfl)) (fun _ _ _ h => h) (Or.inl ⟨by rfl, ?_⟩) ?_ ?_
                            rotate_left
                            · intro w'
                              go_simp
                              with_reducible rfl
                            rotate_left
                            · simp only [Act.put, List.setIfInBounds_toArray, List.set_cons_zero, List.set_cons_succ, i64_w, i32_w]
                              rfl
                            refine pure_ (i := 4) (N := some 64) (v := ?_) (a' := ?_) #[true, true, true, true, true, false, false, false, false, false, false, false, false, false, false] rfl rfl (any_of HT_.out (by kernel_rfl)) (fun _ _ _ h => h) (Or.inl ⟨by rfl, ?_⟩) ?_ ?_
                            rotate_left
                            · intro w'
                              go_simp
                              with_reducible rfl
                            rotate_left
                            · simp only [Act.put, List.setIfInBounds_toArray, List.set_cons_zero, List.set_cons_succ, i64_w, i32_w]
                              rfl
                            refine pure_ (i := 5) (N := some 65) (v := ?_) (a' := ?_) #[true, true, true, true, true, true, false, false, false, false, false, false, false, false, false] rfl rfl (any_of HT_.out (by kernel_rfl)) (fun _ _ _ h => h) (Or.inl ⟨by rfl, ?_⟩) ?_ ?_
                            rotate_left
                            · intro w'
                              go_simp
                              with_reducible rfl
                            rotate_left
                            · simp only [Act.put, List.setIfInBounds_toArray, List.set_cons_zero, List.set_cons_succ, i64_w, i32_w]
                              rfl
                            refine pure_ (i := 7) (N := some 67) (v := ?_) (a' := ?_) #[true, true, true, true, true, true, false, true, false, false, false, false, false, false, false] rfl rfl (any_of HT_.out (by kernel_rfl)) (fun _ _ _ h => h) (Or.inl ⟨by rfl, ?_⟩) ?_ ?_
                            rotate_left
                            · intro w'
                              go_simp
                              with_reducible rfl
                            rotate_left
                            · simp only [Act.put, List.setIfInBounds_toArray, List.set_cons_zero, List.set_cons_succ, i64_w, i32_w]
                              rfl
                            refine pure_ (i := 8) (N := some 68) (v := ?_) (a' := ?_) #[true, true, true, true, true, true, false, true, true, false, false, false, false, false, false] rfl rfl (any_of HT_.out (by kernel_rfl)) (fun _ _ _ h => h) (Or.inl ⟨by rfl, ?_⟩) ?_ ?_
                            rotate_left
                            · intro w'
                              go_simp
                              with_reducible rfl
                            rotate_left
                            · simp only [Act.put, List.setIfInBounds_toArray, List.set_cons_zero, List.set_cons_succ, i64_w, i32_w]
                              rfl
                            refine pure_ (i := 9) (N := some 69) (v := ?_) (a' := ?_) #[true, true, true, true, true, true, false, true, true, true, false, false, false, false, false] rfl rfl (any_of HT_.out (by kernel_rfl)) (fun _ _ _ h => h) (Or.inl ⟨by rfl, ?_⟩) ?_ ?_
                            rotate_left
                            · intro w'
                              go_simp
                              with_reducible rfl
                            rotate_left
                            · simp only [Act.put, List.setIfInBounds_toArray, List.set_cons_zero, List.set_cons_succ, i64_w, i32_w]
                              rfl
                            refine pure_ (i := 10) (N := some 70) (v := ?_) (a' := ?_) #[true, true, true, true, true, true, false, true, true, true, true, false, false, false, false] rfl rfl (any_of HT_.out (by kernel_rfl)) (fun _ _ _ h => h) (Or.inl ⟨by rfl, ?_⟩) ?_ ?_
                            rotate_left
                            · intro w'
                              go_simp
                              with_reducible rfl
                            rotate_left
                            · simp only [Act.put, List.setIfInBounds_toArray, List.set_cons_zero, List.set_cons_succ, i64_w, i32_w]
                              rfl
                            refine pure_ (i := 11) (N := some 71) (v := ?_) (a' := ?_) #[true, true, true, true, true, true, false, true, true, true, true, true, false, false, false] rfl rfl (any_of HT_.out (by kernel_rfl)) (fun _ _ _ h => h) (Or.inl ⟨by rfl, ?_⟩) ?_ ?_
                            rotate_left
                            · intro w'
                              go_simp
                              with_reducible rfl
                            rotate_left
                            · simp only [Act.put, List.setIfInBounds_toArray, List.set_cons_zero, List.set_cons_succ, i64_w, i32_w]
                              rfl
                            refine take_ (i := 6) (N := some 66) (v := ?_) (a' := ?_) #[true, true, true, true, true, true, true, true, true, true, true, true, false, false, false] rfl rfl (take_ofW HT_.out HW_.out (by kernel_rfl)) (fun _ _ _ h => h) (Or.inl ⟨by rfl, ?_⟩) hHeld ?_ ?_
                            rotate_left
                            · intro w' s0
                              go_simp
                              with_reducible rfl
                            rotate_left
                            · simp only [Act.put, List.setIfInBounds_toArray, List.set_cons_zero, List.set_cons_succ, i64_w, i32_w]
                              rfl
                            refine pure_ (i := 12) (N := some 72) (v := ?_) (a' := ?_) #[true, true, true, true, true, true, true, true, true, true, true, true, true, false, false] rfl rfl (any_of HT_.out (by kernel_rfl)) (fun _ _ _ h => h) (Or.inl ⟨by rfl, ?_⟩) ?_ ?_
                            rotate_left
                            · intro w'
                              go_simp
                              with_reducible rfl
                            rotate_left
                            · simp only [Act.put, List.setIfInBounds_toArray, List.set_cons_zero, List.set_cons_succ, i64_w, i32_w]
                              rfl
                            refine pure_ (i := 13) (N := some 73) (v := ?_) (a' := ?_) #[true, true, true, true, true, true, true, true, true, true, true, true, true, true, false] rfl rfl (any_of HT_.out (by kernel_rfl)) (fun _ _ _ h => h) (Or.inl ⟨by rfl, ?_⟩) ?_ ?_
                            rotate_left
                            · intro w'
                              go_simp
                              with_reducible rfl
                            rotate_left
                            · simp only [Act.put, List.setIfInBounds_toArray, List.set_cons_zero, List.set_cons_succ, i64_w, i32_w]
                              rfl
                            refine last_ (i := 14) (N := none) #[true, true, true, true, true, true, true, true, true, true, true, true, true, true, true] rfl rfl (one_of HT_.out (by kernel_rfl)) (by decide) (fun K hK => ?_)
                            refine skip_ (w1 := ?_) (by rfl) rfl ?_ ?_
                            rotate_left
                            · go_simp
                              rfl
                            refine hK.out _ _ ?_
                            clear hK K
                            refine done_ (done_of HT_.out (by kernel_rfl)) ?_
                            try go_wp2
                            go_roundg k2
                            case measure => have := HJ4.out; have := HK2.out; omega
                            case rel => exact ⟨(y142), (wrap64 (x52_2 + 1)), (by first | rfl | (simp; done) | (simp [*]; done)), H', ⟨by have := HJ4.out; have := HK2.out; omega⟩, ⟨by (with_reducible repeat (first | apply Kd.R_alloc | apply Kd.R_drewN | apply Kd.R_drew)); exact HQ36.out⟩, ⟨by repeat (first | (with_reducible first | exact HB.out | apply below_alloc | apply pw_below_drewN | apply below_drew1 | refine below_set ?_ GB33.out) | exact HB.out)⟩⟩
                          · rw [if_neg c31] at H
                            exact absurd H (by simp)
                        · rw [if_neg c29] at H
                          exact absurd H (by simp)
                      · rw [if_neg c28] at H
                        exact absurd H (by simp)
                    · rw [if_neg c26] at H
                      have c26b0 : ((Go.bits .and .u32 (ji25) 1) == 1) = false := beq_eq_false_iff_ne.mpr c26
                      have c26b1 : ((Go.bits .and .u32 (ji25) 1) != 1) = true := bne_iff_ne.mpr c26
                      have H' := Aside0.mk H
                      clear H
                      go_wp2
                      go_roundg k2
                      case measure => have := HJ4.out; have := HK2.out; omega
                      case rel => exact ⟨(x9_2), (wrap64 (x52_2 + 1)), (by first | rfl | (simp; done) | (simp [*]; done)), H', ⟨by have := HJ4.out; have := HK2.out; omega⟩, ⟨by (with_reducible repeat (first | apply Kd.R_alloc | apply Kd.R_drewN | apply Kd.R_drew)); exact HO_9.out⟩, ⟨by repeat (first | (with_reducible first | exact HB.out | apply below_alloc | apply pw_below_drewN | apply below_drew1) | exact HB.out)⟩⟩
                  · rw [if_neg c24] at H
                    exact absurd H (by simp)
                · rw [if_neg c23] at H
                  have c23b0 : decide (x52_2 < 32) = false := decide_eq_false c23
                  clear c23
                  replace H := Option.bind_eq_some_iff.mp H
                  obtain ⟨⟨t143, t144⟩, A370, H⟩ := H
                  replace H : ((decklelaw02_alive.f).bind fun t147 => (if t147 = true then (some (!t144)) else (none))) = some r := H
                  have A37 := Aside0.mk A370
                  clear A370
                  replace H := Option.bind_eq_some_iff.mp H
                  obtain ⟨t147, A380, H⟩ := H
                  replace H : (if t147 = true then (some (!t144)) else (none)) = some r := H
                  have A38 := Aside0.mk A380
                  clear A380
                  by_cases c39 : t147 = true
                  · subst c39
                    have H1 : (some (!t144)) = some r := by rw [if_pos rfl] at H; exact H
                    clear H
                    have H := H1
                    clear H1
                    obtain rfl := Option.some.inj H
                    obtain ⟨Ao40, co40, eo40⟩ := Kd.R_slice HO_9.out
                    subst eo40
                    go_wp2_with (first | ((with_reducible refine gate_callee (f := 23) rfl ?_); refine goesL_ (some 77) rfl rfl Try.func23 (by kernel_rfl) rfl #[.slice Ao40 x9_2.length co40] rfl (by (try simp only [List.map_toArray, List.map_cons, List.map_nil]); first | done | rfl | (simp only [List.length_drop, List.length_take]; rfl)) ?_; (with_reducible refine (crc_Open.calls k2 _ _ x9_2 t143 t144 _ ?side1 ?side2 A37.out).mono ?_); (case side1 => repeat (first | exact (Kd.R_reads' HO_9.out).2.2 | (with_reducible refine Kd.C_alloc ?_ _) | (with_reducible refine Kd.C_drewN ?_ _) | (with_reducible refine Kd.C_drew ?_))); (case side2 => exact (Kd.R_reads' HO_9.out).2.1); rintro e w41 ⟨v145, rfl, ho0, hb⟩; refine ⟨_, rfl, ?_⟩; have n0_ := Aside0.mk (Kd.R_elder' (by (with_reducible repeat (first | apply Kd.R_alloc | apply Kd.R_drewN | apply Kd.R_drew)); exact HO_9.out) (Kd.R_base ho0) hb); have n1_ := Aside0.mk (Kd.R_lower (Kd.R_new' ho0 (Kd.R_lt (by (with_reducible repeat (first | apply Kd.R_alloc | apply Kd.R_drewN | apply Kd.R_drew)); exact HO_9.out))) (below_size (by repeat (first | (with_reducible first | exact HB.out | apply below_alloc | apply pw_below_drewN | apply below_drew1) | exact HB.out)))); have n2_ := Aside0.mk (below_step (by repeat (first | (with_reducible first | exact HB.out | apply below_alloc | apply pw_below_drewN | apply below_drew1) | exact HB.out)) hb); clear HO_9; clear HB; have HO_9 := n0_; have HO146 := n1_; have HB := n2_; clear n0_ n1_ n2_; (try clear hb); (try clear hb2); (try clear hk); (try clear hi); (try clear ho0)) | ((with_reducible refine gate_callee (f := 15) rfl ?_); refine goesL_ (some 80) rfl rfl Try.func15 (by kernel_rfl) rfl #[] rfl (by (try simp only [List.map_toArray, List.map_cons, List.map_nil]); first | done | rfl | (simp only [List.length_drop, List.length_take]; rfl)) ?_; (with_reducible refine (decklelaw02_alive.calls  true _ A38.out).mono ?_); rintro e w42 ⟨rfl, hb⟩; refine ⟨_, rfl, ?_⟩; have n0_ := Aside0.mk (Kd.R_below (by (with_reducible repeat (first | apply Kd.R_alloc | apply Kd.R_drewN | apply Kd.R_drew)); exact HO_9.out) hb); have n1_ := Aside0.mk (Kd.R_below (by (with_reducible repeat (first | apply Kd.R_alloc | apply Kd.R_drewN | apply Kd.R_drew)); exact HO146.out) hb); have n2_ := Aside0.mk (below_step (by repeat (first | (with_reducible first | exact HB.out | apply below_alloc | apply pw_below_drewN | apply below_drew1) | exact HB.out)) hb); clear HO_9; clear HO146; clear HB; have HO_9 := n0_; have HO146 := n1_; have HB := n2_; clear n0_ n1_ n2_; (try clear hb); (try clear hb2); (try clear hk); (try clear hi)))
                    go_ret
                    exact ⟨by first | rfl | (simp [errW_none, errW_some] <;> rfl) | (simp [*, errW_none, errW_some] <;> rfl), by repeat (first | (with_reducible first | exact HB.out | apply below_alloc | apply pw_below_drewN | apply below_drew1) | exact HB.out)⟩
                  · replace c39 := Bool.eq_false_iff.mpr c39
                    subst c39
                    have H1 : (none) = some r := by rw [if_neg (show ¬ (false = true) by decide)] at H; exact H
                    clear H
                    have H := H1
                    clear H1
                    exact absurd H (by simp)
          · rw [if_neg c18] at H
            exact absurd H (by simp)

/-- THE ONE PURE STATEMENT of decklelaw02_CrcBursts: yours. -/
def decklelaw02_CrcBursts.Pure : Prop := ∀ (l0 : List Int) (a1 : Int) (a2 : Int), l0.length ≤ maxLen → l0.length * 1 ≤ 140737488351232 → (∀ x ∈ l0, (Lit.int .u8 x).wf = true) → (Lit.int .i64 a1).wf = true → (Lit.int .u32 a2).wf = true → ∃ k, decklelaw02_CrcBursts.f k l0 a1 a2 = some true
theorem decklelaw02_CrcBursts.walk (P : decklelaw02_CrcBursts.Pure) (a0 : Option Addr) (len0 cap0 : Nat) (z0 : List Int) (a1 : Int) (a2 : Int) (w : World) (w0 : (a0 = none ∧ len0 = 0 ∧ cap0 = 0 ∧ z0 = []) ∨ ∃ x, a0 = some x ∧ len0 ≤ cap0 ∧ cap0 ≤ maxLen ∧ z0.length = cap0 ∧ (∀ i, i < z0.length → w.cell? (x.add i) = some (.int .u8 (z0.getD i 0))) ∧ ∀ n ∈ z0, (Lit.int .u8 n).wf = true) (y0 : len0 * 1 ≤ 140737488351232) (w1 : (Lit.int .i64 a1).wf = true) (w2 : (Lit.int .u32 a2).wf = true) :
    Calls Try.prog 8 #[.slice a0 len0 cap0, .int .i64 a1, .int .u32 a2] w fun e w' => e = .returned (.bool true) ∧ Below w.heap.size w w' := by
  obtain ⟨l0, rfl, hr0, hm0, hw0, hc0⟩ := ReadsInt.ofRowC w0
  obtain ⟨k, h⟩ := P l0 a1 a2 hm0 y0 hw0 w1 w2
  refine (decklelaw02_CrcBursts.calls k _ _ l0 a1 a2 true w (Kd.C_of_reads (d := (0 : Int)) (h1 := fun _ => rfl) hr0) hc0 h).mono ?_
  rintro e w' ⟨rfl, hd⟩
  exact ⟨rfl, hd⟩

end Go.Proofs.Ytkngkjgapgnmbaa.PCrcBursts
