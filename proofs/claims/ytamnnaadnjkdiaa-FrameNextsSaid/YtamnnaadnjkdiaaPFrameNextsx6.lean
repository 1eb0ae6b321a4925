-- WRITTEN by a program of this session's own (wip/gen/mkprint.py), over the kit's print: not printed by print.sh itself
import Derived.Test.YtamnnaadnjkdiaaPFrameNextsx0
import Derived.Test.YtamnnaadnjkdiaaPFrameNextsx3
import Derived.Test.YtamnnaadnjkdiaaPFrameNextsx5
namespace Go.Proofs.Ytamnnaadnjkdiaa.PFrameNexts
open Go.RowKit Go.Proofs.YtamnnaadnjkdiaaW.PrintWords Go.Proofs.YtamnnaadnjkdiaaW.PrintLast Go.Proofs.YtamnnaadnjkdiaaW.PrintMore
attribute [local go_sem] max2_int min2_int max_two min_two max_three min_three max_four min_four   -- for this text's walks alone
set_option linter.unusedVariables false
set_option linter.unusedSimpArgs false

/-! ### decklelaw11_FrameNexts: function 12 -/
mutual
def decklelaw11_FrameNexts.j0 : Nat → List Int → Bool → Option (Bool)
  | 0, _, _ => none
  | k + 1, x0, x24 => if x24 = true then ((decklelaw11_alive.f k).bind fun t254 => (some t254)) else ((frame_Next.f k x0).bind fun bt255 => ((deckleref11_Next.f k x0).bind fun bt261 => ((frame_All.f k x0).bind fun bt267 => ((deckleref11_All.f k x0).bind fun bt272 => (if bt255.1 = bt261.1 then (if (strOfNums bt255.2.1).toList = (strOfNums bt261.2.1).toList then (if bt255.2.2.1 = bt261.2.2.1 then (if bt255.2.2.2 = bt261.2.2.2 then (if (bt267.1.length : Int) = (bt272.1.length : Int) then (if bt267.2.1 = bt272.2.1 then (decklelaw11_FrameNexts.j1 k bt267.1 bt272.1 (bt267.2.2 != bt272.2.2)) else (decklelaw11_FrameNexts.j1 k bt267.1 bt272.1 true)) else (decklelaw11_FrameNexts.j1 k bt267.1 bt272.1 true)) else (decklelaw11_FrameNexts.j1 k bt267.1 bt272.1 true)) else (decklelaw11_FrameNexts.j1 k bt267.1 bt272.1 true)) else (decklelaw11_FrameNexts.j1 k bt267.1 bt272.1 true)) else (decklelaw11_FrameNexts.j1 k bt267.1 bt272.1 true))))))
def decklelaw11_FrameNexts.j1 : Nat → List (S80) → List (S81) → Bool → Option (Bool)
  | 0, _, _, _ => none
  | k + 1, x11, x14, x88 => if x88 = true then (none) else (decklelaw11_FrameNexts.l0 k x11 x14 (x11.length : Int) 0)
def decklelaw11_FrameNexts.l0 : Nat → List (S80) → List (S81) → Int → Int → Option (Bool)
  | 0, _, _, _, _ => none
  | k + 1, x11, x14, x90, x91 => if x91 < x90 then (if 0 ≤ x91 then (if x91 < (x11.length : Int) then (if x91 < (x14.length : Int) then (if ((rd_T80 x11 x91).f0) = ((rd_T81 x14 x91).f0) then (if (strOfNums ((rd_T80 x11 x91).f1)).toList = (strOfNums ((rd_T81 x14 x91).f1)).toList then (if ((rd_T80 x11 x91).f2) = ((rd_T81 x14 x91).f2) then (decklelaw11_FrameNexts.l0 k x11 x14 x90 (wrap64 (x91 + 1))) else (none)) else (none)) else (none)) else (none)) else (none)) else (none)) else (some true)
end
def decklelaw11_FrameNexts.f (k : Nat) (l0 : List Int) : Option (Bool) := (decklelaw11_alive.f k).bind fun t253 => (if t253 = true then (decklelaw11_FrameNexts.j0 k l0 (decide ((l0.length : Int) > 4000))) else (decklelaw11_FrameNexts.j0 k l0 true))
theorem decklelaw11_FrameNexts.mono_l : ∀ k, (∀ y0 y1, LeO (decklelaw11_FrameNexts.j0 k y0 y1) (decklelaw11_FrameNexts.j0 (k + 1) y0 y1)) ∧ (∀ y0 y1 y2, LeO (decklelaw11_FrameNexts.j1 k y0 y1 y2) (decklelaw11_FrameNexts.j1 (k + 1) y0 y1 y2)) ∧ (∀ y0 y1 y2 y3, LeO (decklelaw11_FrameNexts.l0 k y0 y1 y2 y3) (decklelaw11_FrameNexts.l0 (k + 1) y0 y1 y2 y3))
  | 0 => ⟨fun _ _ r h => by simp [decklelaw11_FrameNexts.j0] at h, fun _ _ _ r h => by simp [decklelaw11_FrameNexts.j1] at h, fun _ _ _ _ r h => by simp [decklelaw11_FrameNexts.l0] at h⟩
  | k + 1 => by
    obtain ⟨ih0, ih1, ih2⟩ := decklelaw11_FrameNexts.mono_l k
    refine ⟨?_, ?_, ?_⟩
    · intro y0 y1
      unfold decklelaw11_FrameNexts.j0
      repeat' first
      | (with_reducible exact ih0 _ _)
      | (with_reducible exact ih1 _ _ _)
      | (with_reducible exact ih2 _ _ _ _)
      | (with_reducible exact decklelaw11_alive.mono _)
      | (with_reducible exact deckleref11_All.mono _ _)
      | (with_reducible exact deckleref11_Next.mono _ _)
      | (with_reducible exact frame_All.mono _ _)
      | (with_reducible exact frame_Next.mono _ _)
      | (with_reducible exact LeO.refl _)
      | (with_reducible exact LeO.none _)
      | (with_reducible refine LeO.ite ?_ ?_)
      | (with_reducible refine LeO.bind ?_ (fun _ => ?_))
      | exact ih0 _ _
      | exact ih1 _ _ _
      | exact ih2 _ _ _ _
      | exact decklelaw11_alive.mono _
      | exact deckleref11_All.mono _ _
      | exact deckleref11_Next.mono _ _
      | exact frame_All.mono _ _
      | exact frame_Next.mono _ _
      | exact LeO.none _
      | refine LeO.ite ?_ ?_
      | refine LeO.bind ?_ (fun _ => ?_)
    · intro y0 y1 y2
      unfold decklelaw11_FrameNexts.j1
      repeat' first
      | (with_reducible exact ih0 _ _)
      | (with_reducible exact ih1 _ _ _)
      | (with_reducible exact ih2 _ _ _ _)
      | (with_reducible exact decklelaw11_alive.mono _)
      | (with_reducible exact deckleref11_All.mono _ _)
      | (with_reducible exact deckleref11_Next.mono _ _)
      | (with_reducible exact frame_All.mono _ _)
      | (with_reducible exact frame_Next.mono _ _)
      | (with_reducible exact LeO.refl _)
      | (with_reducible exact LeO.none _)
      | (with_reducible refine LeO.ite ?_ ?_)
      | (with_reducible refine LeO.bind ?_ (fun _ => ?_))
      | exact ih0 _ _
      | exact ih1 _ _ _
      | exact ih2 _ _ _ _
      | exact decklelaw11_alive.mono _
      | exact deckleref11_All.mono _ _
      | exact deckleref11_Next.mono _ _
      | exact frame_All.mono _ _
      | exact frame_Next.mono _ _
      | exact LeO.none _
      | refine LeO.ite ?_ ?_
      | refine LeO.bind ?_ (fun _ => ?_)
    · intro y0 y1 y2 y3
      unfold decklelaw11_FrameNexts.l0
      repeat' first
      | (with_reducible exact ih0 _ _)
      | (with_reducible exact ih1 _ _ _)
      | (with_reducible exact ih2 _ _ _ _)
      | (with_reducible exact decklelaw11_alive.mono _)
      | (with_reducible exact deckleref11_All.mono _ _)
      | (with_reducible exact deckleref11_Next.mono _ _)
      | (with_reducible exact frame_All.mono _ _)
      | (with_reducible exact frame_Next.mono _ _)
      | (with_reducible exact LeO.refl _)
      | (with_reducible exact LeO.none _)
      | (with_reducible refine LeO.ite ?_ ?_)
      | (with_reducible refine LeO.bind ?_ (fun _ => ?_))
      | exact ih0 _ _
      | exact ih1 _ _ _
      | exact ih2 _ _ _ _
      | exact decklelaw11_alive.mono _
      | exact deckleref11_All.mono _ _
      | exact deckleref11_Next.mono _ _
      | exact frame_All.mono _ _
      | exact frame_Next.mono _ _
      | exact LeO.none _
      | refine LeO.ite ?_ ?_
      | refine LeO.bind ?_ (fun _ => ?_)
theorem decklelaw11_FrameNexts.mono : ∀ a0 k, LeO (decklelaw11_FrameNexts.f k a0) (decklelaw11_FrameNexts.f (k + 1) a0) := by
  intro a0 k
  obtain ⟨ih0, ih1, ih2⟩ := decklelaw11_FrameNexts.mono_l k
  unfold decklelaw11_FrameNexts.f
  repeat' first
      | (with_reducible exact ih0 _ _)
      | (with_reducible exact ih1 _ _ _)
      | (with_reducible exact ih2 _ _ _ _)
      | (with_reducible exact decklelaw11_alive.mono _)
      | (with_reducible exact deckleref11_All.mono _ _)
      | (with_reducible exact deckleref11_Next.mono _ _)
      | (with_reducible exact frame_All.mono _ _)
      | (with_reducible exact frame_Next.mono _ _)
      | (with_reducible exact LeO.refl _)
      | (with_reducible exact LeO.none _)
      | (with_reducible refine LeO.ite ?_ ?_)
      | (with_reducible refine LeO.bind ?_ (fun _ => ?_))
      | exact ih0 _ _
      | exact ih1 _ _ _
      | exact ih2 _ _ _ _
      | exact decklelaw11_alive.mono _
      | exact deckleref11_All.mono _ _
      | exact deckleref11_Next.mono _ _
      | exact frame_All.mono _ _
      | exact frame_Next.mono _ _
      | exact LeO.none _
      | refine LeO.ite ?_ ?_
      | refine LeO.bind ?_ (fun _ => ?_)
set_option maxHeartbeats 8000000 in
set_option maxRecDepth 100000 in
theorem decklelaw11_FrameNexts.calls (k : Nat) (A0 : Option Addr) (c0 : Nat) (l0 : List Int) (r : Bool) (w : World) (hr0 : Kd.C (Kd.int .u8) w A0 l0.length l0) (hc0 : l0.length ≤ c0) (h : decklelaw11_FrameNexts.f k l0 = some r) :
    Calls Try.prog 12 #[.slice A0 l0.length c0] w fun e w' => e = .returned (.bool r) ∧ Below w.heap.size w w' := by
  have HR0 := Aside0.mk hr0
  have HC0 := Aside0.mk hc0
  clear hr0 hc0
  have HB := Aside0.mk (Below.refl w.heap.size w)
  have H : ((decklelaw11_alive.f k).bind fun t253 => (if t253 = true then (decklelaw11_FrameNexts.j0 k l0 (decide ((l0.length : Int) > 4000))) else (decklelaw11_FrameNexts.j0 k l0 true))) = some r := h
  clear h
  have HC2 := Aside0.mk H
  clear H
  go_enter Try.func12, Try.ntmps12
  go_upto_region 1 with (fail)
  repeat (go_quiet (fail); go_upto_region 1 with (fail))
  go_cut [24] (fun v24 wc => ∃ (kq : Nat) (x24_1 : Bool), v24 = .bool x24_1 ∧ Aside0 (decklelaw11_FrameNexts.j0 kq l0 x24_1 = some r) ∧ Aside0 (kq ≤ k) ∧ Aside0 (Below w.heap.size w wc))
  case first =>
    have H := HC2.out
    clear HC2
    replace H := Option.bind_eq_some_iff.mp H
    obtain ⟨t253, A30, H⟩ := H
    replace H : (if t253 = true then (decklelaw11_FrameNexts.j0 k l0 (decide ((l0.length : Int) > 4000))) else (decklelaw11_FrameNexts.j0 k l0 true)) = some r := H
    have A3 := Aside0.mk A30
    clear A30
    by_cases c4 : t253 = true
    · subst c4
      have H1 : (decklelaw11_FrameNexts.j0 k l0 (decide ((l0.length : Int) > 4000))) = some r := by rw [if_pos rfl] at H; exact H
      clear H
      have H := H1
      clear H1
      have H' := Aside0.mk H
      clear H
      go_wp2_with (first | (go_at_call 35; (with_reducible refine (decklelaw11_alive.calls k  true _ A3.out).mono ?_); rintro e w5 ⟨rfl, hb⟩; have n0_ := Aside0.mk (below_step (by repeat (first | (with_reducible first | exact HB.out | apply below_alloc | apply pw_below_drewN | apply below_drew1) | exact HB.out)) hb); clear HB; have HB := n0_; clear n0_; (try clear hb); (try clear hb2); (try clear hk); (try clear hi)))
      repeat (go_quiet (first | (go_at_call 35; (with_reducible refine (decklelaw11_alive.calls k  true _ A3.out).mono ?_); rintro e w5 ⟨rfl, hb⟩; have n0_ := Aside0.mk (below_step (by repeat (first | (with_reducible first | exact HB.out | apply below_alloc | apply pw_below_drewN | apply below_drew1) | exact HB.out)) hb); clear HB; have HB := n0_; clear n0_; (try clear hb); (try clear hb2); (try clear hk); (try clear hi))); try go_wp2_with (first | (go_at_call 35; (with_reducible refine (decklelaw11_alive.calls k  true _ A3.out).mono ?_); rintro e w5 ⟨rfl, hb⟩; have n0_ := Aside0.mk (below_step (by repeat (first | (with_reducible first | exact HB.out | apply below_alloc | apply pw_below_drewN | apply below_drew1) | exact HB.out)) hb); clear HB; have HB := n0_; clear n0_; (try clear hb); (try clear hb2); (try clear hk); (try clear hi))))
      go_meet
      case rel => exact ⟨_, (decide ((l0.length : Int) > 4000)), (by first | rfl | (simp; done) | (simp [*]; done)), H', ⟨by first | omega | exact Nat.le_refl _⟩, ⟨by repeat (first | (with_reducible first | exact HB.out | apply below_alloc | apply pw_below_drewN | apply below_drew1) | exact HB.out)⟩⟩
    · replace c4 := Bool.eq_false_iff.mpr c4
      subst c4
      have H1 : (decklelaw11_FrameNexts.j0 k l0 true) = some r := by rw [if_neg (show ¬ (false = true) by decide)] at H; exact H
      clear H
      have H := H1
      clear H1
      have H' := Aside0.mk H
      clear H
      go_wp2_with (first | (go_at_call 35; (with_reducible refine (decklelaw11_alive.calls k  false _ A3.out).mono ?_); rintro e w6 ⟨rfl, hb⟩; have n0_ := Aside0.mk (below_step (by repeat (first | (with_reducible first | exact HB.out | apply below_alloc | apply pw_below_drewN | apply below_drew1) | exact HB.out)) hb); clear HB; have HB := n0_; clear n0_; (try clear hb); (try clear hb2); (try clear hk); (try clear hi)))
      repeat (go_quiet (first | (go_at_call 35; (with_reducible refine (decklelaw11_alive.calls k  false _ A3.out).mono ?_); rintro e w6 ⟨rfl, hb⟩; have n0_ := Aside0.mk (below_step (by repeat (first | (with_reducible first | exact HB.out | apply below_alloc | apply pw_below_drewN | apply below_drew1) | exact HB.out)) hb); clear HB; have HB := n0_; clear n0_; (try clear hb); (try clear hb2); (try clear hk); (try clear hi))); try go_wp2_with (first | (go_at_call 35; (with_reducible refine (decklelaw11_alive.calls k  false _ A3.out).mono ?_); rintro e w6 ⟨rfl, hb⟩; have n0_ := Aside0.mk (below_step (by repeat (first | (with_reducible first | exact HB.out | apply below_alloc | apply pw_below_drewN | apply below_drew1) | exact HB.out)) hb); clear HB; have HB := n0_; clear n0_; (try clear hb); (try clear hb2); (try clear hk); (try clear hi))))
      go_meet
      case rel => exact ⟨_, (true), (by first | rfl | (simp; done) | (simp [*]; done)), H', ⟨by first | omega | exact Nat.le_refl _⟩, ⟨by repeat (first | (with_reducible first | exact HB.out | apply below_alloc | apply pw_below_drewN | apply below_drew1) | exact HB.out)⟩⟩
  case rest =>
    clear HC2
    try clear c1
    try clear p2
    try clear c4
    obtain ⟨kq, x24_1, rfl, HA, HJ1, HB⟩ := hcut
    cases kq with
    | zero => exact absurd HA.out (by simp [decklelaw11_FrameNexts.j0])
    | succ kj1 =>
      have H := HA.out
      clear HA
      simp only [decklelaw11_FrameNexts.j0] at H
      by_cases c7 : x24_1 = true
      · subst c7
        have H1 : ((decklelaw11_alive.f kj1).bind fun t254 => (some t254)) = some r := by rw [if_pos rfl] at H; exact H
        clear H
        have H := H1
        clear H1
        replace H := Option.bind_eq_some_iff.mp H
        obtain ⟨t254, A80, H⟩ := H
        replace H : (some t254) = some r := H
        have A8 := Aside0.mk A80
        clear A80
        obtain rfl := Option.some.inj H
        go_wp2_with (first | (go_at_call 35; (with_reducible refine (decklelaw11_alive.calls kj1  t254 _ A8.out).mono ?_); rintro e w9 ⟨rfl, hb⟩; have n0_ := Aside0.mk (below_step (by repeat (first | (with_reducible first | exact HB.out | apply below_alloc | apply pw_below_drewN | apply below_drew1) | exact HB.out)) hb); clear HB; have HB := n0_; clear n0_; (try clear hb); (try clear hb2); (try clear hk); (try clear hi)))
        repeat (go_quiet (first | (go_at_call 35; (with_reducible refine (decklelaw11_alive.calls kj1  t254 _ A8.out).mono ?_); rintro e w9 ⟨rfl, hb⟩; have n0_ := Aside0.mk (below_step (by repeat (first | (with_reducible first | exact HB.out | apply below_alloc | apply pw_below_drewN | apply below_drew1) | exact HB.out)) hb); clear HB; have HB := n0_; clear n0_; (try clear hb); (try clear hb2); (try clear hk); (try clear hi))); try go_wp2_with (first | (go_at_call 35; (with_reducible refine (decklelaw11_alive.calls kj1  t254 _ A8.out).mono ?_); rintro e w9 ⟨rfl, hb⟩; have n0_ := Aside0.mk (below_step (by repeat (first | (with_reducible first | exact HB.out | apply below_alloc | apply pw_below_drewN | apply below_drew1) | exact HB.out)) hb); clear HB; have HB := n0_; clear n0_; (try clear hb); (try clear hb2); (try clear hk); (try clear hi))))
        go_ret
        exact ⟨by first | rfl | (simp [errW_none, errW_some] <;> rfl) | (simp [*, errW_none, errW_some] <;> rfl), by repeat (first | (with_reducible first | exact HB.out | apply below_alloc | apply pw_below_drewN | apply below_drew1) | exact HB.out)⟩
      · replace c7 := Bool.eq_false_iff.mpr c7
        subst c7
        have H1 : ((frame_Next.f kj1 l0).bind fun bt255 => ((deckleref11_Next.f kj1 l0).bind fun bt261 => ((frame_All.f kj1 l0).bind fun bt267 => ((deckleref11_All.f kj1 l0).bind fun bt272 => (if bt255.1 = bt261.1 then (if (strOfNums bt255.2.1).toList = (strOfNums bt261.2.1).toList then (if bt255.2.2.1 = bt261.2.2.1 then (if bt255.2.2.2 = bt261.2.2.2 then (if (bt267.1.length : Int) = (bt272.1.length : Int) then (if bt267.2.1 = bt272.2.1 then (decklelaw11_FrameNexts.j1 kj1 bt267.1 bt272.1 (bt267.2.2 != bt272.2.2)) else (decklelaw11_FrameNexts.j1 kj1 bt267.1 bt272.1 true)) else (decklelaw11_FrameNexts.j1 kj1 bt267.1 bt272.1 true)) else (decklelaw11_FrameNexts.j1 kj1 bt267.1 bt272.1 true)) else (decklelaw11_FrameNexts.j1 kj1 bt267.1 bt272.1 true)) else (decklelaw11_FrameNexts.j1 kj1 bt267.1 bt272.1 true)) else (decklelaw11_FrameNexts.j1 kj1 bt267.1 bt272.1 true)))))) = some r := by rw [if_neg (show ¬ (false = true) by decide)] at H; exact H
        clear H
        have H := H1
        clear H1
        replace H := Option.bind_eq_some_iff.mp H
        obtain ⟨⟨t255, t256, t257, t258⟩, A100, H⟩ := H
        replace H : ((deckleref11_Next.f kj1 l0).bind fun bt261 => ((frame_All.f kj1 l0).bind fun bt267 => ((deckleref11_All.f kj1 l0).bind fun bt272 => (if t255 = bt261.1 then (if (strOfNums t256).toList = (strOfNums bt261.2.1).toList then (if t257 = bt261.2.2.1 then (if t258 = bt261.2.2.2 then (if (bt267.1.length : Int) = (bt272.1.length : Int) then (if bt267.2.1 = bt272.2.1 then (decklelaw11_FrameNexts.j1 kj1 bt267.1 bt272.1 (bt267.2.2 != bt272.2.2)) else (decklelaw11_FrameNexts.j1 kj1 bt267.1 bt272.1 true)) else (decklelaw11_FrameNexts.j1 kj1 bt267.1 bt272.1 true)) else (decklelaw11_FrameNexts.j1 kj1 bt267.1 bt272.1 true)) else (decklelaw11_FrameNexts.j1 kj1 bt267.1 bt272.1 true)) else (decklelaw11_FrameNexts.j1 kj1 bt267.1 bt272.1 true)) else (decklelaw11_FrameNexts.j1 kj1 bt267.1 bt272.1 true))))) = some r := H
        have A10 := Aside0.mk A100
        clear A100
        replace H := Option.bind_eq_some_iff.mp H
        obtain ⟨⟨t261, t262, t263, t264⟩, A110, H⟩ := H
        replace H : ((frame_All.f kj1 l0).bind fun bt267 => ((deckleref11_All.f kj1 l0).bind fun bt272 => (if t255 = t261 then (if (strOfNums t256).toList = (strOfNums t262).toList then (if t257 = t263 then (if t258 = t264 then (if (bt267.1.length : Int) = (bt272.1.length : Int) then (if bt267.2.1 = bt272.2.1 then (decklelaw11_FrameNexts.j1 kj1 bt267.1 bt272.1 (bt267.2.2 != bt272.2.2)) else (decklelaw11_FrameNexts.j1 kj1 bt267.1 bt272.1 true)) else (decklelaw11_FrameNexts.j1 kj1 bt267.1 bt272.1 true)) else (decklelaw11_FrameNexts.j1 kj1 bt267.1 bt272.1 true)) else (decklelaw11_FrameNexts.j1 kj1 bt267.1 bt272.1 true)) else (decklelaw11_FrameNexts.j1 kj1 bt267.1 bt272.1 true)) else (decklelaw11_FrameNexts.j1 kj1 bt267.1 bt272.1 true)))) = some r := H
        have A11 := Aside0.mk A110
        clear A110
        replace H := Option.bind_eq_some_iff.mp H
        obtain ⟨⟨t267, t268, t269⟩, A120, H⟩ := H
        replace H : ((deckleref11_All.f kj1 l0).bind fun bt272 => (if t255 = t261 then (if (strOfNums t256).toList = (strOfNums t262).toList then (if t257 = t263 then (if t258 = t264 then (if (t267.length : Int) = (bt272.1.length : Int) then (if t268 = bt272.2.1 then (decklelaw11_FrameNexts.j1 kj1 t267 bt272.1 (t269 != bt272.2.2)) else (decklelaw11_FrameNexts.j1 kj1 t267 bt272.1 true)) else (decklelaw11_FrameNexts.j1 kj1 t267 bt272.1 true)) else (decklelaw11_FrameNexts.j1 kj1 t267 bt272.1 true)) else (decklelaw11_FrameNexts.j1 kj1 t267 bt272.1 true)) else (decklelaw11_FrameNexts.j1 kj1 t267 bt272.1 true)) else (decklelaw11_FrameNexts.j1 kj1 t267 bt272.1 true))) = some r := H
        have A12 := Aside0.mk A120
        clear A120
        replace H := Option.bind_eq_some_iff.mp H
        obtain ⟨⟨t272, t273, t274⟩, A130, H⟩ := H
        replace H : (if t255 = t261 then (if (strOfNums t256).toList = (strOfNums t262).toList then (if t257 = t263 then (if t258 = t264 then (if (t267.length : Int) = (t272.length : Int) then (if t268 = t273 then (decklelaw11_FrameNexts.j1 kj1 t267 t272 (t269 != t274)) else (decklelaw11_FrameNexts.j1 kj1 t267 t272 true)) else (decklelaw11_FrameNexts.j1 kj1 t267 t272 true)) else (decklelaw11_FrameNexts.j1 kj1 t267 t272 true)) else (decklelaw11_FrameNexts.j1 kj1 t267 t272 true)) else (decklelaw11_FrameNexts.j1 kj1 t267 t272 true)) else (decklelaw11_FrameNexts.j1 kj1 t267 t272 true)) = some r := H
        have A13 := Aside0.mk A130
        clear A130
        have HC14 := Aside0.mk H
        clear H
        go_upto_region 7 with (first | (go_at_call 36; (with_reducible refine (frame_Next.calls kj1 _ _ l0 t255 t256 t257 t258 _ ?side1 ?side2 A10.out).mono ?_); (case side1 => repeat (first | exact (Kd.C_below HR0.out HB.out) | (with_reducible refine Kd.C_alloc ?_ _) | (with_reducible refine Kd.C_drewN ?_ _) | (with_reducible refine Kd.C_drew ?_))); (case side2 => exact HC0.out); rintro e w15 ⟨v259, rfl, ho0, hb⟩; have n0_ := Aside0.mk (Kd.R_lower ho0 (below_size (by repeat (first | (with_reducible first | exact HB.out | apply below_alloc | apply pw_below_drewN | apply below_drew1) | exact HB.out)))); have n1_ := Aside0.mk (below_step (by repeat (first | (with_reducible first | exact HB.out | apply below_alloc | apply pw_below_drewN | apply below_drew1) | exact HB.out)) hb); clear HB; have HO260 := n0_; have HB := n1_; clear n0_ n1_; (try clear hb); (try clear hb2); (try clear hk); (try clear hi); (try clear ho0)) | (go_at_call 43; (with_reducible refine (deckleref11_Next.calls kj1 _ _ l0 t261 t262 t263 t264 _ ?side1 ?side2 A11.out).mono ?_); (case side1 => repeat (first | exact (Kd.C_below HR0.out HB.out) | (with_reducible refine Kd.C_alloc ?_ _) | (with_reducible refine Kd.C_drewN ?_ _) | (with_reducible refine Kd.C_drew ?_))); (case side2 => exact HC0.out); rintro e w16 ⟨v265, rfl, ho0, hb⟩; have n0_ := Aside0.mk (Kd.R_elder' (by (with_reducible repeat (first | apply Kd.R_alloc | apply Kd.R_drewN | apply Kd.R_drew)); exact HO260.out) (Kd.R_base ho0) hb); have n1_ := Aside0.mk (Kd.R_lower (Kd.R_new' ho0 (Kd.R_lt (by (with_reducible repeat (first | apply Kd.R_alloc | apply Kd.R_drewN | apply Kd.R_drew)); exact HO260.out))) (below_size (by repeat (first | (with_reducible first | exact HB.out | apply below_alloc | apply pw_below_drewN | apply below_drew1) | exact HB.out)))); have n2_ := Aside0.mk (below_step (by repeat (first | (with_reducible first | exact HB.out | apply below_alloc | apply pw_below_drewN | apply below_drew1) | exact HB.out)) hb); clear HO260; clear HB; have HO260 := n0_; have HO266 := n1_; have HB := n2_; clear n0_ n1_ n2_; (try clear hb); (try clear hb2); (try clear hk); (try clear hi); (try clear ho0)) | (go_at_call 44; (with_reducible refine (frame_All.calls kj1 _ _ l0 t267 t268 t269 _ ?side1 ?side2 A12.out).mono ?_); (case side1 => repeat (first | exact (Kd.C_below HR0.out HB.out) | (with_reducible refine Kd.C_alloc ?_ _) | (with_reducible refine Kd.C_drewN ?_ _) | (with_reducible refine Kd.C_drew ?_))); (case side2 => exact HC0.out); rintro e w17 ⟨v270, rfl, ho0, hb⟩; have n0_ := Aside0.mk (Kd.R_below (by (with_reducible repeat (first | apply Kd.R_alloc | apply Kd.R_drewN | apply Kd.R_drew)); exact HO260.out) hb); have n1_ := Aside0.mk (Kd.R_below (by (with_reducible repeat (first | apply Kd.R_alloc | apply Kd.R_drewN | apply Kd.R_drew)); exact HO266.out) hb); have n2_ := Aside0.mk (Kd.S_lower (Kd.S_new' (Kd.S_new' ho0 (Kd.R_lt (by (with_reducible repeat (first | apply Kd.R_alloc | apply Kd.R_drewN | apply Kd.R_drew)); exact HO260.out))) (Kd.R_lt (by (with_reducible repeat (first | apply Kd.R_alloc | apply Kd.R_drewN | apply Kd.R_drew)); exact HO266.out))) (below_size (by repeat (first | (with_reducible first | exact HB.out | apply below_alloc | apply pw_below_drewN | apply below_drew1) | exact HB.out)))); have n3_ := Aside0.mk (below_step (by repeat (first | (with_reducible first | exact HB.out | apply below_alloc | apply pw_below_drewN | apply below_drew1) | exact HB.out)) hb); clear HO260; clear HO266; clear HB; have HO260 := n0_; have HO266 := n1_; have HO271 := n2_; have HB := n3_; clear n0_ n1_ n2_ n3_; (try clear hb); (try clear hb2); (try clear hk); (try clear hi); (try clear ho0)) | (go_at_call 45; (with_reducible refine (deckleref11_All.calls kj1 _ _ l0 t272 t273 t274 _ ?side1 ?side2 A13.out).mono ?_); (case side1 => repeat (first | exact (Kd.C_below HR0.out HB.out) | (with_reducible refine Kd.C_alloc ?_ _) | (with_reducible refine Kd.C_drewN ?_ _) | (with_reducible refine Kd.C_drew ?_))); (case side2 => exact HC0.out); rintro e w18 ⟨v275, rfl, ho0, hb⟩; have n0_ := Aside0.mk (Kd.R_below (by (with_reducible repeat (first | apply Kd.R_alloc | apply Kd.R_drewN | apply Kd.R_drew)); exact HO260.out) hb); have n1_ := Aside0.mk (Kd.R_below (by (with_reducible repeat (first | apply Kd.R_alloc | apply Kd.R_drewN | apply Kd.R_drew)); exact HO266.out) hb); have n2_ := Aside0.mk (Kd.S_below (by (with_reducible repeat (first | apply Kd.S_alloc | apply Kd.S_drewN | apply Kd.S_drew)); exact HO271.out) hb); have n3_ := Aside0.mk (Kd.S_lower (Kd.S_new' (Kd.S_new' ho0 (Kd.R_lt (by (with_reducible repeat (first | apply Kd.R_alloc | apply Kd.R_drewN | apply Kd.R_drew)); exact HO260.out))) (Kd.R_lt (by (with_reducible repeat (first | apply Kd.R_alloc | apply Kd.R_drewN | apply Kd.R_drew)); exact HO266.out))) (below_size (by repeat (first | (with_reducible first | exact HB.out | apply below_alloc | apply pw_below_drewN | apply below_drew1) | exact HB.out)))); have n4_ := Aside0.mk (below_step (by repeat (first | (with_reducible first | exact HB.out | apply below_alloc | apply pw_below_drewN | apply below_drew1) | exact HB.out)) hb); clear HO260; clear HO266; clear HO271; clear HB; have HO260 := n0_; have HO266 := n1_; have HO271 := n2_; have HO276 := n3_; have HB := n4_; clear n0_ n1_ n2_ n3_ n4_; (try clear hb); (try clear hb2); (try clear hk); (try clear hi); (try clear ho0)))
        repeat (go_quiet (first | (go_at_call 36; (with_reducible refine (frame_Next.calls kj1 _ _ l0 t255 t256 t257 t258 _ ?side1 ?side2 A10.out).mono ?_); (case side1 => repeat (first | exact (Kd.C_below HR0.out HB.out) | (with_reducible refine Kd.C_alloc ?_ _) | (with_reducible refine Kd.C_drewN ?_ _) | (with_reducible refine Kd.C_drew ?_))); (case side2 => exact HC0.out); rintro e w15 ⟨v259, rfl, ho0, hb⟩; have n0_ := Aside0.mk (Kd.R_lower ho0 (below_size (by repeat (first | (with_reducible first | exact HB.out | apply below_alloc | apply pw_below_drewN | apply below_drew1) | exact HB.out)))); have n1_ := Aside0.mk (below_step (by repeat (first | (with_reducible first | exact HB.out | apply below_alloc | apply pw_below_drewN | apply below_drew1) | exact HB.out)) hb); clear HB; have HO260 := n0_; have HB := n1_; clear n0_ n1_; (try clear hb); (try clear hb2); (try clear hk); (try clear hi); (try clear ho0)) | (go_at_call 43; (with_reducible refine (deckleref11_Next.calls kj1 _ _ l0 t261 t262 t263 t264 _ ?side1 ?side2 A11.out).mono ?_); (case side1 => repeat (first | exact (Kd.C_below HR0.out HB.out) | (with_reducible refine Kd.C_alloc ?_ _) | (with_reducible refine Kd.C_drewN ?_ _) | (with_reducible refine Kd.C_drew ?_))); (case side2 => exact HC0.out); rintro e w16 ⟨v265, rfl, ho0, hb⟩; have n0_ := Aside0.mk (Kd.R_elder' (by (with_reducible repeat (first | apply Kd.R_alloc | apply Kd.R_drewN | apply Kd.R_drew)); exact HO260.out) (Kd.R_base ho0) hb); have n1_ := Aside0.mk (Kd.R_lower (Kd.R_new' ho0 (Kd.R_lt (by (with_reducible repeat (first | apply Kd.R_alloc | apply Kd.R_drewN | apply Kd.R_drew)); exact HO260.out))) (below_size (by repeat (first | (with_reducible first | exact HB.out | apply below_alloc | apply pw_below_drewN | apply below_drew1) | exact HB.out)))); have n2_ := Aside0.mk (below_step (by repeat (first | (with_reducible first | exact HB.out | apply below_alloc | apply pw_below_drewN | apply below_drew1) | exact HB.out)) hb); clear HO260; clear HB; have HO260 := n0_; have HO266 := n1_; have HB := n2_; clear n0_ n1_ n2_; (try clear hb); (try clear hb2); (try clear hk); (try clear hi); (try clear ho0)) | (go_at_call 44; (with_reducible refine (frame_All.calls kj1 _ _ l0 t267 t268 t269 _ ?side1 ?side2 A12.out).mono ?_); (case side1 => repeat (first | exact (Kd.C_below HR0.out HB.out) | (with_reducible refine Kd.C_alloc ?_ _) | (with_reducible refine Kd.C_drewN ?_ _) | (with_reducible refine Kd.C_drew ?_))); (case side2 => exact HC0.out); rintro e w17 ⟨v270, rfl, ho0, hb⟩; have n0_ := Aside0.mk (Kd.R_below (by (with_reducible repeat (first | apply Kd.R_alloc | apply Kd.R_drewN | apply Kd.R_drew)); exact HO260.out) hb); have n1_ := Aside0.mk (Kd.R_below (by (with_reducible repeat (first | apply Kd.R_alloc | apply Kd.R_drewN | apply Kd.R_drew)); exact HO266.out) hb); have n2_ := Aside0.mk (Kd.S_lower (Kd.S_new' (Kd.S_new' ho0 (Kd.R_lt (by (with_reducible repeat (first | apply Kd.R_alloc | apply Kd.R_drewN | apply Kd.R_drew)); exact HO260.out))) (Kd.R_lt (by (with_reducible repeat (first | apply Kd.R_alloc | apply Kd.R_drewN | apply Kd.R_drew)); exact HO266.out))) (below_size (by repeat (first | (with_reducible first | exact HB.out | apply below_alloc | apply pw_below_drewN | apply below_drew1) | exact HB.out)))); have n3_ := Aside0.mk (below_step (by repeat (first | (with_reducible first | exact HB.out | apply below_alloc | apply pw_below_drewN | apply below_drew1) | exact HB.out)) hb); clear HO260; clear HO266; clear HB; have HO260 := n0_; have HO266 := n1_; have HO271 := n2_; have HB := n3_; clear n0_ n1_ n2_ n3_; (try clear hb); (try clear hb2); (try clear hk); (try clear hi); (try clear ho0)) | (go_at_call 45; (with_reducible refine (deckleref11_All.calls kj1 _ _ l0 t272 t273 t274 _ ?side1 ?side2 A13.out).mono ?_); (case side1 => repeat (first | exact (Kd.C_below HR0.out HB.out) | (with_reducible refine Kd.C_alloc ?_ _) | (with_reducible refine Kd.C_drewN ?_ _) | (with_reducible refine Kd.C_drew ?_))); (case side2 => exact HC0.out); rintro e w18 ⟨v275, rfl, ho0, hb⟩; have n0_ := Aside0.mk (Kd.R_below (by (with_reducible repeat (first | apply Kd.R_alloc | apply Kd.R_drewN | apply Kd.R_drew)); exact HO260.out) hb); have n1_ := Aside0.mk (Kd.R_below (by (with_reducible repeat (first | apply Kd.R_alloc | apply Kd.R_drewN | apply Kd.R_drew)); exact HO266.out) hb); have n2_ := Aside0.mk (Kd.S_below (by (with_reducible repeat (first | apply Kd.S_alloc | apply Kd.S_drewN | apply Kd.S_drew)); exact HO271.out) hb); have n3_ := Aside0.mk (Kd.S_lower (Kd.S_new' (Kd.S_new' ho0 (Kd.R_lt (by (with_reducible repeat (first | apply Kd.R_alloc | apply Kd.R_drewN | apply Kd.R_drew)); exact HO260.out))) (Kd.R_lt (by (with_reducible repeat (first | apply Kd.R_alloc | apply Kd.R_drewN | apply Kd.R_drew)); exact HO266.out))) (below_size (by repeat (first | (with_reducible first | exact HB.out | apply below_alloc | apply pw_below_drewN | apply below_drew1) | exact HB.out)))); have n4_ := Aside0.mk (below_step (by repeat (first | (with_reducible first | exact HB.out | apply below_alloc | apply pw_below_drewN | apply below_drew1) | exact HB.out)) hb); clear HO260; clear HO266; clear HO271; clear HB; have HO260 := n0_; have HO266 := n1_; have HO271 := n2_; have HO276 := n3_; have HB := n4_; clear n0_ n1_ n2_ n3_ n4_; (try clear hb); (try clear hb2); (try clear hk); (try clear hi); (try clear ho0))); go_upto_region 7 with (first | (go_at_call 36; (with_reducible refine (frame_Next.calls kj1 _ _ l0 t255 t256 t257 t258 _ ?side1 ?side2 A10.out).mono ?_); (case side1 => repeat (first | exact (Kd.C_below HR0.out HB.out) | (with_reducible refine Kd.C_alloc ?_ _) | (with_reducible refine Kd.C_drewN ?_ _) | (with_reducible refine Kd.C_drew ?_))); (case side2 => exact HC0.out); rintro e w15 ⟨v259, rfl, ho0, hb⟩; have n0_ := Aside0.mk (Kd.R_lower ho0 (below_size (by repeat (first | (with_reducible first | exact HB.out | apply below_alloc | apply pw_below_drewN | apply below_drew1) | exact HB.out)))); have n1_ := Aside0.mk (below_step (by repeat (first | (with_reducible first | exact HB.out | apply below_alloc | apply pw_below_drewN | apply below_drew1) | exact HB.out)) hb); clear HB; have HO260 := n0_; have HB := n1_; clear n0_ n1_; (try clear hb); (try clear hb2); (try clear hk); (try clear hi); (try clear ho0)) | (go_at_call 43; (with_reducible refine (deckleref11_Next.calls kj1 _ _ l0 t261 t262 t263 t264 _ ?side1 ?side2 A11.out).mono ?_); (case side1 => repeat (first | exact (Kd.C_below HR0.out HB.out) | (with_reducible refine Kd.C_alloc ?_ _) | (with_reducible refine Kd.C_drewN ?_ _) | (with_reducible refine Kd.C_drew ?_))); (case side2 => exact HC0.out); rintro e w16 ⟨v265, rfl, ho0, hb⟩; have n0_ := Aside0.mk (Kd.R_elder' (by (with_reducible repeat (first | apply Kd.R_alloc | apply Kd.R_drewN | apply Kd.R_drew)); exact HO260.out) (Kd.R_base ho0) hb); have n1_ := Aside0.mk (Kd.R_lower (Kd.R_new' ho0 (Kd.R_lt (by (with_reducible repeat (first | apply Kd.R_alloc | apply Kd.R_drewN | apply Kd.R_drew)); exact HO260.out))) (below_size (by repeat (first | (with_reducible first | exact HB.out | apply below_alloc | apply pw_below_drewN | apply below_drew1) | exact HB.out)))); have n2_ := Aside0.mk (below_step (by repeat (first | (with_reducible first | exact HB.out | apply below_alloc | apply pw_below_drewN | apply below_drew1) | exact HB.out)) hb); clear HO260; clear HB; have HO260 := n0_; have HO266 := n1_; have HB := n2_; clear n0_ n1_ n2_; (try clear hb); (try clear hb2); (try clear hk); (try clear hi); (try clear ho0)) | (go_at_call 44; (with_reducible refine (frame_All.calls kj1 _ _ l0 t267 t268 t269 _ ?side1 ?side2 A12.out).mono ?_); (case side1 => repeat (first | exact (Kd.C_below HR0.out HB.out) | (with_reducible refine Kd.C_alloc ?_ _) | (with_reducible refine Kd.C_drewN ?_ _) | (with_reducible refine Kd.C_drew ?_))); (case side2 => exact HC0.out); rintro e w17 ⟨v270, rfl, ho0, hb⟩; have n0_ := Aside0.mk (Kd.R_below (by (with_reducible repeat (first | apply Kd.R_alloc | apply Kd.R_drewN | apply Kd.R_drew)); exact HO260.out) hb); have n1_ := Aside0.mk (Kd.R_below (by (with_reducible repeat (first | apply Kd.R_alloc | apply Kd.R_drewN | apply Kd.R_drew)); exact HO266.out) hb); have n2_ := Aside0.mk (Kd.S_lower (Kd.S_new' (Kd.S_new' ho0 (Kd.R_lt (by (with_reducible repeat (first | apply Kd.R_alloc | apply Kd.R_drewN | apply Kd.R_drew)); exact HO260.out))) (Kd.R_lt (by (with_reducible repeat (first | apply Kd.R_alloc | apply Kd.R_drewN | apply Kd.R_drew)); exact HO266.out))) (below_size (by repeat (first | (with_reducible first | exact HB.out | apply below_alloc | apply pw_below_drewN | apply below_drew1) | exact HB.out)))); have n3_ := Aside0.mk (below_step (by repeat (first | (with_reducible first | exact HB.out | apply below_alloc | apply pw_below_drewN | apply below_drew1) | exact HB.out)) hb); clear HO260; clear HO266; clear HB; have HO260 := n0_; have HO266 := n1_; have HO271 := n2_; have HB := n3_; clear n0_ n1_ n2_ n3_; (try clear hb); (try clear hb2); (try clear hk); (try clear hi); (try clear ho0)) | (go_at_call 45; (with_reducible refine (deckleref11_All.calls kj1 _ _ l0 t272 t273 t274 _ ?side1 ?side2 A13.out).mono ?_); (case side1 => repeat (first | exact (Kd.C_below HR0.out HB.out) | (with_reducible refine Kd.C_alloc ?_ _) | (with_reducible refine Kd.C_drewN ?_ _) | (with_reducible refine Kd.C_drew ?_))); (case side2 => exact HC0.out); rintro e w18 ⟨v275, rfl, ho0, hb⟩; have n0_ := Aside0.mk (Kd.R_below (by (with_reducible repeat (first | apply Kd.R_alloc | apply Kd.R_drewN | apply Kd.R_drew)); exact HO260.out) hb); have n1_ := Aside0.mk (Kd.R_below (by (with_reducible repeat (first | apply Kd.R_alloc | apply Kd.R_drewN | apply Kd.R_drew)); exact HO266.out) hb); have n2_ := Aside0.mk (Kd.S_below (by (with_reducible repeat (first | apply Kd.S_alloc | apply Kd.S_drewN | apply Kd.S_drew)); exact HO271.out) hb); have n3_ := Aside0.mk (Kd.S_lower (Kd.S_new' (Kd.S_new' ho0 (Kd.R_lt (by (with_reducible repeat (first | apply Kd.R_alloc | apply Kd.R_drewN | apply Kd.R_drew)); exact HO260.out))) (Kd.R_lt (by (with_reducible repeat (first | apply Kd.R_alloc | apply Kd.R_drewN | apply Kd.R_drew)); exact HO266.out))) (below_size (by repeat (first | (with_reducible first | exact HB.out | apply below_alloc | apply pw_below_drewN | apply below_drew1) | exact HB.out)))); have n4_ := Aside0.mk (below_step (by repeat (first | (with_reducible first | exact HB.out | apply below_alloc | apply pw_below_drewN | apply below_drew1) | exact HB.out)) hb); clear HO260; clear HO266; clear HO271; clear HB; have HO260 := n0_; have HO266 := n1_; have HO271 := n2_; have HO276 := n3_; have HB := n4_; clear n0_ n1_ n2_ n3_ n4_; (try clear hb); (try clear hb2); (try clear hk); (try clear hi); (try clear ho0))))
        (try simp only [Act.put, List.setIfInBounds_toArray, List.set_cons_zero, List.set_cons_succ])
        go_cut [88] (fun v88 wc => ∃ (kq : Nat) (x88_13 : Bool), v88 = .bool x88_13 ∧ Aside0 (decklelaw11_FrameNexts.j1 kq t267 t272 x88_13 = some r) ∧ Aside0 (kq ≤ kj1) ∧ Aside0 (Kd.S k80 80 wc w.heap.size (fun _ => True) v270 t267) ∧ Aside0 (Kd.S k81 81 wc w.heap.size (fun _ => True) v275 t272) ∧ Aside0 (Below w.heap.size w wc))
        case first =>
          have H := HC14.out
          clear HC14
          by_cases c19 : t255 = t261
          · rw [if_pos c19] at H
            have c19b0 : (t255 == t261) = true := beq_iff_eq.mpr c19
            have c19b1 : (t255 != t261) = false := bne_eq_false_iff_eq.mpr c19
            clear c19
            (first | rw [c19b0] | (simp only [i64_w, i32_w]; rw [c19b0]) | skip)
            by_cases c20 : (strOfNums t256).toList = (strOfNums t262).toList
            · rw [if_pos c20] at H
              have c20b0 : ((strOfNums t256).toList == (strOfNums t262).toList) = true := beq_iff_eq.mpr c20
              have c20b1 : ((strOfNums t256).toList != (strOfNums t262).toList) = false := bne_eq_false_iff_eq.mpr c20
              clear c20
              by_cases c21 : t257 = t263
              · rw [if_pos c21] at H
                have c21b0 : (t257 == t263) = true := beq_iff_eq.mpr c21
                have c21b1 : (t257 != t263) = false := bne_eq_false_iff_eq.mpr c21
                clear c21
                by_cases c22 : t258 = t264
                · rw [if_pos c22] at H
                  have c22b0 : (t258 == t264) = true := beq_iff_eq.mpr c22
                  have c22b1 : (t258 != t264) = false := bne_eq_false_iff_eq.mpr c22
                  clear c22
                  by_cases c23 : (t267.length : Int) = (t272.length : Int)
                  · rw [if_pos c23] at H
                    have c23b0 : ((t267.length : Int) == (t272.length : Int)) = true := beq_iff_eq.mpr c23
                    have c23b1 : ((t267.length : Int) != (t272.length : Int)) = false := bne_eq_false_iff_eq.mpr c23
                    have c23b2 : (t267.length == t272.length) = true := by first | simpa using c23 | (simp at c23 ⊢; omega)
                    clear c23
                    by_cases c24 : t268 = t273
                    · rw [if_pos c24] at H
                      have c24b0 : (t268 == t273) = true := beq_iff_eq.mpr c24
                      have c24b1 : (t268 != t273) = false := bne_eq_false_iff_eq.mpr c24
                      clear c24
                      have H' := Aside0.mk H
                      clear H
                      have hcv25 := own_string (P := Try.prog) Try.underlying22 Try.underlying5 Try.underlying9 (Kd.own_of_R HO260.out)
                      have hcv26 := own_string (P := Try.prog) Try.underlying22 Try.underlying5 Try.underlying9 (Kd.own_of_R HO266.out)
                      obtain ⟨Ao27, co27, eo27⟩ := Kd.S_slice HO271.out
                      subst eo27
                      obtain ⟨Ao28, co28, eo28⟩ := Kd.S_slice HO276.out
                      subst eo28
                      go_wp2
                      repeat (go_quiet (fail); try go_wp2)
                      go_meet
                      case rel => exact ⟨_, ((t269 != t274)), (by first | rfl | (simp; done) | (simp [*]; done)), H', ⟨by have := HJ1.out; first | omega | exact Nat.le_refl _⟩, ⟨by (with_reducible repeat (first | apply Kd.S_alloc | apply Kd.S_drewN | apply Kd.S_drew)); exact Kd.S_mono HO271.out (fun _ hk => trivial)⟩, ⟨by (with_reducible repeat (first | apply Kd.S_alloc | apply Kd.S_drewN | apply Kd.S_drew)); exact Kd.S_mono HO276.out (fun _ hk => trivial)⟩, ⟨by repeat (first | (with_reducible first | exact HB.out | apply below_alloc | apply pw_below_drewN | apply below_drew1) | exact HB.out)⟩⟩
                    · rw [if_neg c24] at H
                      have c24b0 : (t268 == t273) = false := beq_eq_false_iff_ne.mpr c24
                      have c24b1 : (t268 != t273) = true := bne_iff_ne.mpr c24
                      have H' := Aside0.mk H
                      clear H
                      have hcv29 := own_string (P := Try.prog) Try.underlying22 Try.underlying5 Try.underlying9 (Kd.own_of_R HO260.out)
                      have hcv30 := own_string (P := Try.prog) Try.underlying22 Try.underlying5 Try.underlying9 (Kd.own_of_R HO266.out)
                      obtain ⟨Ao31, co31, eo31⟩ := Kd.S_slice HO271.out
                      subst eo31
                      obtain ⟨Ao32, co32, eo32⟩ := Kd.S_slice HO276.out
                      subst eo32
                      go_wp2
                      repeat (go_quiet (fail); try go_wp2)
                      go_meet
                      case rel => exact ⟨_, (true), (by first | rfl | (simp; done) | (simp [*]; done)), H', ⟨by have := HJ1.out; first | omega | exact Nat.le_refl _⟩, ⟨by (with_reducible repeat (first | apply Kd.S_alloc | apply Kd.S_drewN | apply Kd.S_drew)); exact Kd.S_mono HO271.out (fun _ hk => trivial)⟩, ⟨by (with_reducible repeat (first | apply Kd.S_alloc | apply Kd.S_drewN | apply Kd.S_drew)); exact Kd.S_mono HO276.out (fun _ hk => trivial)⟩, ⟨by repeat (first | (with_reducible first | exact HB.out | apply below_alloc | apply pw_below_drewN | apply below_drew1) | exact HB.out)⟩⟩
                  · rw [if_neg c23] at H
                    have c23b0 : ((t267.length : Int) == (t272.length : Int)) = false := beq_eq_false_iff_ne.mpr c23
                    have c23b1 : ((t267.length : Int) != (t272.length : Int)) = true := bne_iff_ne.mpr c23
                    have c23b2 : (t267.length == t272.length) = false := by first | simpa using c23 | (simp at c23 ⊢; omega)
                    have H' := Aside0.mk H
                    clear H
                    have hcv33 := own_string (P := Try.prog) Try.underlying22 Try.underlying5 Try.underlying9 (Kd.own_of_R HO260.out)
                    have hcv34 := own_string (P := Try.prog) Try.underlying22 Try.underlying5 Try.underlying9 (Kd.own_of_R HO266.out)
                    obtain ⟨Ao35, co35, eo35⟩ := Kd.S_slice HO271.out
                    subst eo35
                    obtain ⟨Ao36, co36, eo36⟩ := Kd.S_slice HO276.out
                    subst eo36
                    go_wp2
                    repeat (go_quiet (fail); try go_wp2)
                    go_meet
                    case rel => exact ⟨_, (true), (by first | rfl | (simp; done) | (simp [*]; done)), H', ⟨by have := HJ1.out; first | omega | exact Nat.le_refl _⟩, ⟨by (with_reducible repeat (first | apply Kd.S_alloc | apply Kd.S_drewN | apply Kd.S_drew)); exact Kd.S_mono HO271.out (fun _ hk => trivial)⟩, ⟨by (with_reducible repeat (first | apply Kd.S_alloc | apply Kd.S_drewN | apply Kd.S_drew)); exact Kd.S_mono HO276.out (fun _ hk => trivial)⟩, ⟨by repeat (first | (with_reducible first | exact HB.out | apply below_alloc | apply pw_below_drewN | apply below_drew1) | exact HB.out)⟩⟩
                · rw [if_neg c22] at H
                  have c22b0 : (t258 == t264) = false := beq_eq_false_iff_ne.mpr c22
                  have c22b1 : (t258 != t264) = true := bne_iff_ne.mpr c22
                  have H' := Aside0.mk H
                  clear H
                  have hcv37 := own_string (P := Try.prog) Try.underlying22 Try.underlying5 Try.underlying9 (Kd.own_of_R HO260.out)
                  have hcv38 := own_string (P := Try.prog) Try.underlying22 Try.underlying5 Try.underlying9 (Kd.own_of_R HO266.out)
                  go_wp2
                  repeat (go_quiet (fail); try go_wp2)
                  go_meet
                  case rel => exact ⟨_, (true), (by first | rfl | (simp; done) | (simp [*]; done)), H', ⟨by have := HJ1.out; first | omega | exact Nat.le_refl _⟩, ⟨by (with_reducible repeat (first | apply Kd.S_alloc | apply Kd.S_drewN | apply Kd.S_drew)); exact Kd.S_mono HO271.out (fun _ hk => trivial)⟩, ⟨by (with_reducible repeat (first | apply Kd.S_alloc | apply Kd.S_drewN | apply Kd.S_drew)); exact Kd.S_mono HO276.out (fun _ hk => trivial)⟩, ⟨by repeat (first | (with_reducible first | exact HB.out | apply below_alloc | apply pw_below_drewN | apply below_drew1) | exact HB.out)⟩⟩
              · rw [if_neg c21] at H
                have c21b0 : (t257 == t263) = false := beq_eq_false_iff_ne.mpr c21
                have c21b1 : (t257 != t263) = true := bne_iff_ne.mpr c21
                have H' := Aside0.mk H
                clear H
                have hcv39 := own_string (P := Try.prog) Try.underlying22 Try.underlying5 Try.underlying9 (Kd.own_of_R HO260.out)
                have hcv40 := own_string (P := Try.prog) Try.underlying22 Try.underlying5 Try.underlying9 (Kd.own_of_R HO266.out)
                go_wp2
                repeat (go_quiet (fail); try go_wp2)
                go_meet
                case rel => exact ⟨_, (true), (by first | rfl | (simp; done) | (simp [*]; done)), H', ⟨by have := HJ1.out; first | omega | exact Nat.le_refl _⟩, ⟨by (with_reducible repeat (first | apply Kd.S_alloc | apply Kd.S_drewN | apply Kd.S_drew)); exact Kd.S_mono HO271.out (fun _ hk => trivial)⟩, ⟨by (with_reducible repeat (first | apply Kd.S_alloc | apply Kd.S_drewN | apply Kd.S_drew)); exact Kd.S_mono HO276.out (fun _ hk => trivial)⟩, ⟨by repeat (first | (with_reducible first | exact HB.out | apply below_alloc | apply pw_below_drewN | apply below_drew1) | exact HB.out)⟩⟩
            · rw [if_neg c20] at H
              have c20b0 : ((strOfNums t256).toList == (strOfNums t262).toList) = false := beq_eq_false_iff_ne.mpr c20
              have c20b1 : ((strOfNums t256).toList != (strOfNums t262).toList) = true := bne_iff_ne.mpr c20
              have H' := Aside0.mk H
              clear H
              have hcv41 := own_string (P := Try.prog) Try.underlying22 Try.underlying5 Try.underlying9 (Kd.own_of_R HO260.out)
              have hcv42 := own_string (P := Try.prog) Try.underlying22 Try.underlying5 Try.underlying9 (Kd.own_of_R HO266.out)
              go_wp2
              repeat (go_quiet (fail); try go_wp2)
              go_meet
              case rel => exact ⟨_, (true), (by first | rfl | (simp; done) | (simp [*]; done)), H', ⟨by have := HJ1.out; first | omega | exact Nat.le_refl _⟩, ⟨by (with_reducible repeat (first | apply Kd.S_alloc | apply Kd.S_drewN | apply Kd.S_drew)); exact Kd.S_mono HO271.out (fun _ hk => trivial)⟩, ⟨by (with_reducible repeat (first | apply Kd.S_alloc | apply Kd.S_drewN | apply Kd.S_drew)); exact Kd.S_mono HO276.out (fun _ hk => trivial)⟩, ⟨by repeat (first | (with_reducible first | exact HB.out | apply below_alloc | apply pw_below_drewN | apply below_drew1) | exact HB.out)⟩⟩
          · rw [if_neg c19] at H
            have c19b0 : (t255 == t261) = false := beq_eq_false_iff_ne.mpr c19
            have c19b1 : (t255 != t261) = true := bne_iff_ne.mpr c19
            (first | rw [c19b0] | (simp only [i64_w, i32_w]; rw [c19b0]) | skip)
            have H' := Aside0.mk H
            clear H
            go_wp2
            repeat (go_quiet (fail); try go_wp2)
            go_meet
            case rel => exact ⟨_, (true), (by first | rfl | (simp; done) | (simp [*]; done)), H', ⟨by have := HJ1.out; first | omega | exact Nat.le_refl _⟩, ⟨by (with_reducible repeat (first | apply Kd.S_alloc | apply Kd.S_drewN | apply Kd.S_drew)); exact Kd.S_mono HO271.out (fun _ hk => trivial)⟩, ⟨by (with_reducible repeat (first | apply Kd.S_alloc | apply Kd.S_drewN | apply Kd.S_drew)); exact Kd.S_mono HO276.out (fun _ hk => trivial)⟩, ⟨by repeat (first | (with_reducible first | exact HB.out | apply below_alloc | apply pw_below_drewN | apply below_drew1) | exact HB.out)⟩⟩
        case rest =>
          clear HC14
          try clear c1
          try clear c2
          try clear p2
          try clear hcv2
          try clear hcv3
          try clear c4
          try clear hcv4
          try clear c7
          try clear c12
          try clear c19
          try clear c19b0
          try clear c19b1
          try clear c20
          try clear c20b0
          try clear c20b1
          try clear c21
          try clear c21b0
          try clear c21b1
          try clear c22
          try clear c22b0
          try clear c22b1
          try clear c23
          try clear c23b0
          try clear c23b1
          try clear c23b2
          try clear c24
          try clear c24b0
          try clear c24b1
          try clear hcv25
          try clear hcv26
          try clear hcv29
          try clear hcv30
          try clear hcv33
          try clear hcv34
          try clear hcv37
          try clear hcv38
          try clear hcv39
          try clear hcv40
          try clear hcv41
          try clear hcv42
          try clear p2
          obtain ⟨kq, x88_13, rfl, HA, HJ13, HO_11, HO_14, HB⟩ := hcut
          cases kq with
          | zero => exact absurd HA.out (by simp [decklelaw11_FrameNexts.j1])
          | succ kj13 =>
            have H := HA.out
            clear HA
            simp only [decklelaw11_FrameNexts.j1] at H
            by_cases c43 : x88_13 = true
            · subst c43
              have H1 : (none) = some r := by rw [if_pos rfl] at H; exact H
              clear H
              have H := H1
              clear H1
              exact absurd H (by simp)
            · replace c43 := Bool.eq_false_iff.mpr c43
              subst c43
              have H1 : (decklelaw11_FrameNexts.l0 kj13 t267 t272 (t267.length : Int) 0) = some r := by rw [if_neg (show ¬ (false = true) by decide)] at H; exact H
              clear H
              have H := H1
              clear H1
              have H' := Aside0.mk H
              clear H
              obtain ⟨Ao44, co44, eo44⟩ := Kd.S_slice HO_11.out
              subst eo44
              go_wp2
              repeat (go_quiet (fail); try go_wp2)
              go_loopg [91] kj13 (fun kq v91 w' => ∃ (x91_3 : Int), v91 = .int .i64 x91_3 ∧ Aside0 (decklelaw11_FrameNexts.l0 kq t267 t272 (t267.length : Int) x91_3 = some r) ∧ Aside0 (kq ≤ kj13) ∧ Aside0 (Kd.S k80 80 w' w.heap.size (fun _ => True) (.slice Ao44 t267.length co44) t267) ∧ Aside0 (Kd.S k81 81 w' w.heap.size (fun _ => True) v275 t272) ∧ Aside0 (Below w.heap.size w w'))
              case atStart => exact ⟨(0), (by first | rfl | (simp; done) | (simp [*]; done)), H', ⟨Nat.le_refl _⟩, ⟨by (with_reducible repeat (first | apply Kd.S_alloc | apply Kd.S_drewN | apply Kd.S_drew)); exact HO_11.out⟩, ⟨by (with_reducible repeat (first | apply Kd.S_alloc | apply Kd.S_drewN | apply Kd.S_drew)); exact HO_14.out⟩, ⟨by repeat (first | (with_reducible first | exact HB.out | apply below_alloc | apply pw_below_drewN | apply below_drew1) | exact HB.out)⟩⟩
              case round =>
                clear H'
                try clear c1
                try clear c2
                try clear p2
                try clear hcv2
                try clear hcv3
                try clear c4
                try clear hcv4
                try clear c7
                try clear c12
                try clear c19
                try clear c19b0
                try clear c19b1
                try clear c20
                try clear c20b0
                try clear c20b1
                try clear c21
                try clear c21b0
                try clear c21b1
                try clear c22
                try clear c22b0
                try clear c22b1
                try clear c23
                try clear c23b0
                try clear c23b1
                try clear c23b2
                try clear c24
                try clear c24b0
                try clear c24b1
                try clear hcv25
                try clear hcv26
                try clear hcv29
                try clear hcv30
                try clear hcv33
                try clear hcv34
                try clear hcv37
                try clear hcv38
                try clear hcv39
                try clear hcv40
                try clear hcv41
                try clear hcv42
                try clear c43
                try clear p2
                obtain ⟨x91_3, rfl, HA, HK3, HO_11, HO_14, HB⟩ := hrel
                cases gk with
                | zero => exact absurd HA.out (by simp [decklelaw11_FrameNexts.l0])
                | succ k3 =>
                  have H := HA.out
                  clear HA
                  simp only [decklelaw11_FrameNexts.l0] at H
                  by_cases c45 : x91_3 < (t267.length : Int)
                  · rw [if_pos c45] at H
                    have c45b0 : decide (x91_3 < (t267.length : Int)) = true := decide_eq_true c45
                    clear c45
                    by_cases c46 : 0 ≤ x91_3
                    · rw [if_pos c46] at H
                      have c46b0 : decide (0 ≤ x91_3) = true := decide_eq_true c46
                      clear c46
                      by_cases c47 : x91_3 < (t267.length : Int)
                      · rw [if_pos c47] at H
                        have c47b0 : decide (x91_3 < (t267.length : Int)) = true := decide_eq_true c47
                        clear c47
                        by_cases c48 : x91_3 < (t272.length : Int)
                        · rw [if_pos c48] at H
                          have c48b0 : decide (x91_3 < (t272.length : Int)) = true := decide_eq_true c48
                          clear c48
                          by_cases c49 : ((rd_T80 t267 x91_3).f0) = ((rd_T81 t272 x91_3).f0)
                          · rw [if_pos c49] at H
                            have c49b0 : (((rd_T80 t267 x91_3).f0) == ((rd_T81 t272 x91_3).f0)) = true := beq_iff_eq.mpr c49
                            have c49b1 : (((rd_T80 t267 x91_3).f0) != ((rd_T81 t272 x91_3).f0)) = false := bne_eq_false_iff_eq.mpr c49
                            clear c49
                            by_cases c50 : (strOfNums ((rd_T80 t267 x91_3).f1)).toList = (strOfNums ((rd_T81 t272 x91_3).f1)).toList
                            · rw [if_pos c50] at H
                              have c50b0 : ((strOfNums ((rd_T80 t267 x91_3).f1)).toList == (strOfNums ((rd_T81 t272 x91_3).f1)).toList) = true := beq_iff_eq.mpr c50
                              have c50b1 : ((strOfNums ((rd_T80 t267 x91_3).f1)).toList != (strOfNums ((rd_T81 t272 x91_3).f1)).toList) = false := bne_eq_false_iff_eq.mpr c50
                              clear c50
                              by_cases c51 : ((rd_T80 t267 x91_3).f2) = ((rd_T81 t272 x91_3).f2)
                              · rw [if_pos c51] at H
                                have c51b0 : (((rd_T80 t267 x91_3).f2) == ((rd_T81 t272 x91_3).f2)) = true := beq_iff_eq.mpr c51
                                have c51b1 : (((rd_T80 t267 x91_3).f2) != ((rd_T81 t272 x91_3).f2)) = false := bne_eq_false_iff_eq.mpr c51
                                clear c51
                                have H' := Aside0.mk H
                                clear H
                                have p277 : 0 ≤ (x91_3 : Int) := of_decide_eq_true (by first | (with_reducible assumption) | assumption)
                                have q277 : x91_3 < (t267.length : Int) := of_decide_eq_true (by first | (with_reducible assumption) | assumption)
                                obtain ⟨ad277, A277_1, c277_1, e277, hx277_0, hx277_1, hx277_2, hl277_1, hi277_1⟩ := at_T80 (Kd.S_reads' HO_11.out).2.2 x91_3 p277 q277
                                cases e277
                                obtain ⟨ce277, hce277, hMe277, hcc277⟩ := Kd.S_get HO_11.out z80 x91_3 p277 (by first | exact q277 | exact of_decide_eq_true (by first | (with_reducible assumption) | assumption) | (have e_ := (Kd.S_reads' HO_11.out).1; omega))
                                obtain ⟨ve277_1, rfl, ge277_1⟩ := k80_openM hMe277
                                have hv277_1 := hcc277 1 _ rfl
                                rw [add_field _ _ 1 (by omega)] at hv277_1
                                replace hv277_1 := Option.some.inj (hv277_1.symm.trans hx277_1)
                                rw [hv277_1] at ge277_1
                                have HL277_1 := Aside0.mk (show Kd.R (Kd.int .u8) 5 _ _ _ _ ((rd_T80 t267 x91_3).f1) from ge277_1)
                                clear hv277_1 ge277_1
                                clear hcc277 hce277
                                have HR277_1 := Aside0.mk hi277_1
                                have HC277_1 := Aside0.mk hl277_1
                                clear hi277_1 hl277_1
                                replace p277 := eq_true p277
                                replace q277 := eq_true q277
                                obtain ⟨Ao52, co52, eo52⟩ := Kd.S_slice HO_14.out
                                subst eo52
                                have p278 : 0 ≤ (x91_3 : Int) := of_decide_eq_true (by first | (with_reducible assumption) | assumption)
                                have q278 : x91_3 < (t272.length : Int) := of_decide_eq_true (by first | (with_reducible assumption) | assumption)
                                obtain ⟨ad278, A278_1, c278_1, e278, hx278_0, hx278_1, hx278_2, hl278_1, hi278_1⟩ := at_T81 (Kd.S_reads' HO_14.out).2.2 x91_3 p278 q278
                                cases e278
                                obtain ⟨ce278, hce278, hMe278, hcc278⟩ := Kd.S_get HO_14.out z81 x91_3 p278 (by first | exact q278 | exact of_decide_eq_true (by first | (with_reducible assumption) | assumption) | (have e_ := (Kd.S_reads' HO_14.out).1; omega))
                                obtain ⟨ve278_1, rfl, ge278_1⟩ := k81_openM hMe278
                                have hv278_1 := hcc278 1 _ rfl
                                rw [add_field _ _ 1 (by omega)] at hv278_1
                                replace hv278_1 := Option.some.inj (hv278_1.symm.trans hx278_1)
                                rw [hv278_1] at ge278_1
                                have HL278_1 := Aside0.mk (show Kd.R (Kd.int .u8) 5 _ _ _ _ ((rd_T81 t272 x91_3).f1) from ge278_1)
                                clear hv278_1 ge278_1
                                clear hcc278 hce278
                                have HR278_1 := Aside0.mk hi278_1
                                have HC278_1 := Aside0.mk hl278_1
                                clear hi278_1 hl278_1
                                replace p278 := eq_true p278
                                replace q278 := eq_true q278
                                have p279 : 0 ≤ (x91_3 : Int) := of_decide_eq_true (by first | (with_reducible assumption) | assumption)
                                have q279 : x91_3 < (t267.length : Int) := of_decide_eq_true (by first | (with_reducible assumption) | assumption)
                                obtain ⟨ad279, A279_1, c279_1, e279, hx279_0, hx279_1, hx279_2, hl279_1, hi279_1⟩ := at_T80 (Kd.S_reads' HO_11.out).2.2 x91_3 p279 q279
                                obtain rfl : ad277 = ad279 := (by injection e279)
                                obtain ⟨ce279, hce279, hMe279, hcc279⟩ := Kd.S_get HO_11.out z80 x91_3 p279 (by first | exact q279 | exact of_decide_eq_true (by first | (with_reducible assumption) | assumption) | (have e_ := (Kd.S_reads' HO_11.out).1; omega))
                                obtain ⟨ve279_1, rfl, ge279_1⟩ := k80_openM hMe279
                                have hv279_1 := hcc279 1 _ rfl
                                rw [add_field _ _ 1 (by omega)] at hv279_1
                                replace hv279_1 := Option.some.inj (hv279_1.symm.trans hx279_1)
                                rw [hv279_1] at ge279_1
                                have HL279_1 := Aside0.mk (show Kd.R (Kd.int .u8) 5 _ _ _ _ ((rd_T80 t267 x91_3).f1) from ge279_1)
                                clear hv279_1 ge279_1
                                clear hcc279 hce279
                                have HR279_1 := Aside0.mk hi279_1
                                have HC279_1 := Aside0.mk hl279_1
                                clear hi279_1 hl279_1
                                replace p279 := eq_true p279
                                replace q279 := eq_true q279
                                have ea_ := Option.some.inj (hx277_1.symm.trans hx279_1)
                                injection ea_ with ea_ en_ ec_
                                subst ea_
                                subst ec_
                                clear en_
                                have hcv53 := Kd.C_string (P := Try.prog) (A := A277_1) (c := c277_1) Try.underlying22 Try.underlying5 Try.underlying9 (by repeat (first | (with_reducible exact HR279_1.out) | (with_reducible refine Kd.C_alloc ?_ _) | (with_reducible refine Kd.C_drewN ?_ _) | (with_reducible refine Kd.C_drew ?_) | exact HR279_1.out))
                                (try (have hcv53n := fun n_ : Nat => Kd.C_string (P := Try.prog) (A := A277_1) (c := c277_1) Try.underlying22 Try.underlying5 Try.underlying9 (Kd.C_drewN (by repeat (first | (with_reducible exact HR279_1.out) | (with_reducible refine Kd.C_alloc ?_ _) | (with_reducible refine Kd.C_drewN ?_ _) | (with_reducible refine Kd.C_drew ?_) | exact HR279_1.out)) n_)))
                                have p280 : 0 ≤ (x91_3 : Int) := of_decide_eq_true (by first | (with_reducible assumption) | assumption)
                                have q280 : x91_3 < (t272.length : Int) := of_decide_eq_true (by first | (with_reducible assumption) | assumption)
                                obtain ⟨ad280, A280_1, c280_1, e280, hx280_0, hx280_1, hx280_2, hl280_1, hi280_1⟩ := at_T81 (Kd.S_reads' HO_14.out).2.2 x91_3 p280 q280
                                obtain rfl : ad278 = ad280 := (by injection e280)
                                obtain ⟨ce280, hce280, hMe280, hcc280⟩ := Kd.S_get HO_14.out z81 x91_3 p280 (by first | exact q280 | exact of_decide_eq_true (by first | (with_reducible assumption) | assumption) | (have e_ := (Kd.S_reads' HO_14.out).1; omega))
                                obtain ⟨ve280_1, rfl, ge280_1⟩ := k81_openM hMe280
                                have hv280_1 := hcc280 1 _ rfl
                                rw [add_field _ _ 1 (by omega)] at hv280_1
                                replace hv280_1 := Option.some.inj (hv280_1.symm.trans hx280_1)
                                rw [hv280_1] at ge280_1
                                have HL280_1 := Aside0.mk (show Kd.R (Kd.int .u8) 5 _ _ _ _ ((rd_T81 t272 x91_3).f1) from ge280_1)
                                clear hv280_1 ge280_1
                                clear hcc280 hce280
                                have HR280_1 := Aside0.mk hi280_1
                                have HC280_1 := Aside0.mk hl280_1
                                clear hi280_1 hl280_1
                                replace p280 := eq_true p280
                                replace q280 := eq_true q280
                                have ea_ := Option.some.inj (hx278_1.symm.trans hx280_1)
                                injection ea_ with ea_ en_ ec_
                                subst ea_
                                subst ec_
                                clear en_
                                have hcv54 := Kd.C_string (P := Try.prog) (A := A278_1) (c := c278_1) Try.underlying22 Try.underlying5 Try.underlying9 (by repeat (first | (with_reducible exact HR280_1.out) | (with_reducible refine Kd.C_alloc ?_ _) | (with_reducible refine Kd.C_drewN ?_ _) | (with_reducible refine Kd.C_drew ?_) | exact HR280_1.out))
                                (try (have hcv54n := fun n_ : Nat => Kd.C_string (P := Try.prog) (A := A278_1) (c := c278_1) Try.underlying22 Try.underlying5 Try.underlying9 (Kd.C_drewN (by repeat (first | (with_reducible exact HR280_1.out) | (with_reducible refine Kd.C_alloc ?_ _) | (with_reducible refine Kd.C_drewN ?_ _) | (with_reducible refine Kd.C_drew ?_) | exact HR280_1.out)) n_)))
                                have p281 : 0 ≤ (x91_3 : Int) := of_decide_eq_true (by first | (with_reducible assumption) | assumption)
                                have q281 : x91_3 < (t267.length : Int) := of_decide_eq_true (by first | (with_reducible assumption) | assumption)
                                obtain ⟨ad281, A281_1, c281_1, e281, hx281_0, hx281_1, hx281_2, hl281_1, hi281_1⟩ := at_T80 (Kd.S_reads' HO_11.out).2.2 x91_3 p281 q281
                                obtain rfl : ad277 = ad281 := (by injection e281)
                                obtain ⟨ce281, hce281, hMe281, hcc281⟩ := Kd.S_get HO_11.out z80 x91_3 p281 (by first | exact q281 | exact of_decide_eq_true (by first | (with_reducible assumption) | assumption) | (have e_ := (Kd.S_reads' HO_11.out).1; omega))
                                obtain ⟨ve281_1, rfl, ge281_1⟩ := k80_openM hMe281
                                have hv281_1 := hcc281 1 _ rfl
                                rw [add_field _ _ 1 (by omega)] at hv281_1
                                replace hv281_1 := Option.some.inj (hv281_1.symm.trans hx281_1)
                                rw [hv281_1] at ge281_1
                                have HL281_1 := Aside0.mk (show Kd.R (Kd.int .u8) 5 _ _ _ _ ((rd_T80 t267 x91_3).f1) from ge281_1)
                                clear hv281_1 ge281_1
                                clear hcc281 hce281
                                have HR281_1 := Aside0.mk hi281_1
                                have HC281_1 := Aside0.mk hl281_1
                                clear hi281_1 hl281_1
                                replace p281 := eq_true p281
                                replace q281 := eq_true q281
                                have ea_ := Option.some.inj (hx277_1.symm.trans hx281_1)
                                injection ea_ with ea_ en_ ec_
                                subst ea_
                                subst ec_
                                clear en_
                                have p282 : 0 ≤ (x91_3 : Int) := of_decide_eq_true (by first | (with_reducible assumption) | assumption)
                                have q282 : x91_3 < (t272.length : Int) := of_decide_eq_true (by first | (with_reducible assumption) | assumption)
                                obtain ⟨ad282, A282_1, c282_1, e282, hx282_0, hx282_1, hx282_2, hl282_1, hi282_1⟩ := at_T81 (Kd.S_reads' HO_14.out).2.2 x91_3 p282 q282
                                obtain rfl : ad278 = ad282 := (by injection e282)
                                obtain ⟨ce282, hce282, hMe282, hcc282⟩ := Kd.S_get HO_14.out z81 x91_3 p282 (by first | exact q282 | exact of_decide_eq_true (by first | (with_reducible assumption) | assumption) | (have e_ := (Kd.S_reads' HO_14.out).1; omega))
                                obtain ⟨ve282_1, rfl, ge282_1⟩ := k81_openM hMe282
                                have hv282_1 := hcc282 1 _ rfl
                                rw [add_field _ _ 1 (by omega)] at hv282_1
                                replace hv282_1 := Option.some.inj (hv282_1.symm.trans hx282_1)
                                rw [hv282_1] at ge282_1
                                have HL282_1 := Aside0.mk (show Kd.R (Kd.int .u8) 5 _ _ _ _ ((rd_T81 t272 x91_3).f1) from ge282_1)
                                clear hv282_1 ge282_1
                                clear hcc282 hce282
                                have HR282_1 := Aside0.mk hi282_1
                                have HC282_1 := Aside0.mk hl282_1
                                clear hi282_1 hl282_1
                                replace p282 := eq_true p282
                                replace q282 := eq_true q282
                                have ea_ := Option.some.inj (hx278_1.symm.trans hx282_1)
                                injection ea_ with ea_ en_ ec_
                                subst ea_
                                subst ec_
                                clear en_
                                go_wp2
                                repeat (go_quiet (fail); try go_wp2)
                                go_roundg k3
                                case measure => have := HJ1.out; have := HJ13.out; have := HK3.out; omega
                                case rel => exact ⟨(wrap64 (x91_3 + 1)), (by first | rfl | (simp; done) | (simp [*]; done)), H', ⟨by have := HJ1.out; have := HJ13.out; have := HK3.out; omega⟩, ⟨by (with_reducible repeat (first | apply Kd.S_alloc | apply Kd.S_drewN | apply Kd.S_drew)); exact HO_11.out⟩, ⟨by (with_reducible repeat (first | apply Kd.S_alloc | apply Kd.S_drewN | apply Kd.S_drew)); exact HO_14.out⟩, ⟨by repeat (first | (with_reducible first | exact HB.out | apply below_alloc | apply pw_below_drewN | apply below_drew1) | exact HB.out)⟩⟩
                              · rw [if_neg c51] at H
                                exact absurd H (by simp)
                            · rw [if_neg c50] at H
                              exact absurd H (by simp)
                          · rw [if_neg c49] at H
                            exact absurd H (by simp)
                        · rw [if_neg c48] at H
                          exact absurd H (by simp)
                      · rw [if_neg c47] at H
                        exact absurd H (by simp)
                    · rw [if_neg c46] at H
                      exact absurd H (by simp)
                  · rw [if_neg c45] at H
                    have c45b0 : decide (x91_3 < (t267.length : Int)) = false := decide_eq_false c45
                    clear c45
                    obtain rfl := Option.some.inj H
                    go_wp2
                    repeat (go_quiet (fail); try go_wp2)
                    go_ret
                    exact ⟨by first | rfl | (simp [errW_none, errW_some] <;> rfl) | (simp [*, errW_none, errW_some] <;> rfl), by repeat (first | (with_reducible first | exact HB.out | apply below_alloc | apply pw_below_drewN | apply below_drew1) | exact HB.out)⟩

/-- THE ONE PURE STATEMENT of decklelaw11_FrameNexts: yours. -/
def decklelaw11_FrameNexts.Pure : Prop := ∀ (l0 : List Int), l0.length ≤ maxLen → l0.length * 1 ≤ 140737488351232 → (∀ x ∈ l0, (Lit.int .u8 x).wf = true) → ∃ k, decklelaw11_FrameNexts.f k l0 = some true
theorem decklelaw11_FrameNexts.walk (P : decklelaw11_FrameNexts.Pure) (a0 : Option Addr) (len0 cap0 : Nat) (z0 : List Int) (w : World) (w0 : (a0 = none ∧ len0 = 0 ∧ cap0 = 0 ∧ z0 = []) ∨ ∃ x, a0 = some x ∧ len0 ≤ cap0 ∧ cap0 ≤ maxLen ∧ z0.length = cap0 ∧ (∀ i, i < z0.length → w.cell? (x.add i) = some (.int .u8 (z0.getD i 0))) ∧ ∀ n ∈ z0, (Lit.int .u8 n).wf = true) (y0 : len0 * 1 ≤ 140737488351232) :
    Calls Try.prog 12 #[.slice a0 len0 cap0] w fun e w' => e = .returned (.bool true) ∧ Below w.heap.size w w' := by
  obtain ⟨l0, rfl, hr0, hm0, hw0, hc0⟩ := ReadsInt.ofRowC w0
  obtain ⟨k, h⟩ := P l0 hm0 y0 hw0
  refine (decklelaw11_FrameNexts.calls k _ _ l0 true w (Kd.C_of_reads (d := (0 : Int)) (h1 := fun _ => rfl) hr0) hc0 h).mono ?_
  rintro e w' ⟨rfl, hd⟩
  exact ⟨rfl, hd⟩

end Go.Proofs.Ytamnnaadnjkdiaa.PFrameNexts
