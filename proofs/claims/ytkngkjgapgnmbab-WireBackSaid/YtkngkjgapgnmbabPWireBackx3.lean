-- WRITTEN by a program of this session's own (wip/gen/mkprint.py), over the kit's print: not printed by print.sh itself
import Derived.Test.YtkngkjgapgnmbabPWireBackx0
import Derived.Test.YtkngkjgapgnmbabPWireBackx1
import Derived.Test.YtkngkjgapgnmbabPWireBackx2
namespace Go.Proofs.Ytkngkjgapgnmbab.PWireBack
open Go.RowKit Go.Proofs.YtkngkjgapgnmbabW.PrintWords Go.Proofs.YtkngkjgapgnmbabW.PrintLast Go.Proofs.YtkngkjgapgnmbabW.PrintMore
attribute [local go_sem] max2_int min2_int max_two min_two max_three min_three max_four min_four   -- for this text's walks alone
set_option linter.unusedVariables false
set_option linter.unusedSimpArgs false

/-! ### decklelaw01_WireBack: function 7 -/
mutual
def decklelaw01_WireBack.j0 : Nat → Int → List Int → List Int → Bool → Option (Bool)
  | 0, _, _, _, _ => none
  | k + 1, x0, x1, x2, x33 => if x33 = true then ((decklelaw01_alive.f).bind fun t134 => (some t134)) else ((wire_Int.f k x0).bind fun t135 => ((wire_Bytes.f k x1).bind fun t138 => ((some (([] : List Int) : List Int)).bind fun y141 => (if y141.length + t135.length < 140737488355328 then ((some (y141 ++ t135 : List Int)).bind fun y144 => (if y144.length + x2.length < 140737488355328 then ((wire_GetInt.f k (y144 ++ x2)).bind fun bt150 => ((some (([] : List Int) : List Int)).bind fun y153 => (if y153.length + t138.length < 140737488355328 then ((some (y153 ++ t138 : List Int)).bind fun y156 => (if y156.length + x2.length < 140737488355328 then ((wire_GetBytes.f k (y156 ++ x2) (x1.length : Int)).bind fun bt162 => (if bt150.2.2 = 0 then (if bt150.1 = x0 then (if bt150.2.1 = (t135.length : Int) then (if bt162.2.2 = 0 then (if (strOfNums bt162.1).toList = (strOfNums x1).toList then (decklelaw01_WireBack.j1 k x1 t135 t138 (bt162.2.1 != (t138.length : Int))) else (decklelaw01_WireBack.j1 k x1 t135 t138 true)) else (decklelaw01_WireBack.j1 k x1 t135 t138 true)) else (decklelaw01_WireBack.j1 k x1 t135 t138 true)) else (decklelaw01_WireBack.j1 k x1 t135 t138 true)) else (decklelaw01_WireBack.j1 k x1 t135 t138 true))) else (none))) else (none)))) else (none))) else (none)))))
def decklelaw01_WireBack.j1 : Nat → List Int → List Int → List Int → Bool → Option (Bool)
  | 0, _, _, _, _ => none
  | k + 1, x1, x7, x8, x90 => if x90 = true then (some false) else (decklelaw01_WireBack.l0 k x1 x7 x8 (x7.length : Int) 0)
def decklelaw01_WireBack.l0 : Nat → List Int → List Int → List Int → Int → Int → Option (Bool)
  | 0, _, _, _, _, _ => none
  | k + 1, x1, x7, x8, x92, x93 => if x93 < x92 then (if 0 ≤ x93 then (if x93 ≤ (x7.length : Int) then ((wire_GetInt.f k (x7.take (x93 : Int).toNat)).bind fun bt171 => (if bt171.2.2 = 5 then (decklelaw01_WireBack.l0 k x1 x7 x8 x92 (wrap64 (x93 + 1))) else (some false))) else (none)) else (none)) else (decklelaw01_WireBack.l1 k x1 x8 (x8.length : Int) 0)
def decklelaw01_WireBack.l1 : Nat → List Int → List Int → Int → Int → Option (Bool)
  | 0, _, _, _, _ => none
  | k + 1, x1, x8, x108, x109 => if x109 < x108 then (if 0 ≤ x109 then (if x109 ≤ (x8.length : Int) then ((wire_GetBytes.f k (x8.take (x109 : Int).toNat) (x1.length : Int)).bind fun bt178 => (if bt178.2.2 = 5 then (if (bt178.1.length : Int) = 0 then (decklelaw01_WireBack.l1 k x1 x8 x108 (wrap64 (x109 + 1))) else (some false)) else (some false))) else (none)) else (none)) else ((wire_GetBytes.f k x8 (wrap64 ((x1.length : Int) - 1))).bind fun bt183 => ((decklelaw01_alive.f).bind fun t188 => (if t188 = true then (some (bt183.2.2 == 13)) else (some false))))
end
def decklelaw01_WireBack.f (k : Nat) (a0 : Int) (l1 : List Int) (l2 : List Int) : Option (Bool) := if (l1.length : Int) > 1000 then (decklelaw01_WireBack.j0 k a0 l1 l2 true) else (decklelaw01_WireBack.j0 k a0 l1 l2 (decide ((l2.length : Int) > 1000)))
theorem decklelaw01_WireBack.mono_l : ∀ k, (∀ y0 y1 y2 y3, LeO (decklelaw01_WireBack.j0 k y0 y1 y2 y3) (decklelaw01_WireBack.j0 (k + 1) y0 y1 y2 y3)) ∧ (∀ y0 y1 y2 y3, LeO (decklelaw01_WireBack.j1 k y0 y1 y2 y3) (decklelaw01_WireBack.j1 (k + 1) y0 y1 y2 y3)) ∧ (∀ y0 y1 y2 y3 y4, LeO (decklelaw01_WireBack.l0 k y0 y1 y2 y3 y4) (decklelaw01_WireBack.l0 (k + 1) y0 y1 y2 y3 y4)) ∧ (∀ y0 y1 y2 y3, LeO (decklelaw01_WireBack.l1 k y0 y1 y2 y3) (decklelaw01_WireBack.l1 (k + 1) y0 y1 y2 y3))
  | 0 => ⟨fun _ _ _ _ r h => by simp [decklelaw01_WireBack.j0] at h, fun _ _ _ _ r h => by simp [decklelaw01_WireBack.j1] at h, fun _ _ _ _ _ r h => by simp [decklelaw01_WireBack.l0] at h, fun _ _ _ _ r h => by simp [decklelaw01_WireBack.l1] at h⟩
  | k + 1 => by
    obtain ⟨ih0, ih1, ih2, ih3⟩ := decklelaw01_WireBack.mono_l k
    refine ⟨?_, ?_, ?_, ?_⟩
    · intro y0 y1 y2 y3
      unfold decklelaw01_WireBack.j0
      repeat' first
      | (with_reducible exact ih0 _ _ _ _)
      | (with_reducible exact ih1 _ _ _ _)
      | (with_reducible exact ih2 _ _ _ _ _)
      | (with_reducible exact ih3 _ _ _ _)
      | (with_reducible exact wire_Bytes.mono _ _)
      | (with_reducible exact wire_GetBytes.mono _ _ _)
      | (with_reducible exact wire_GetInt.mono _ _)
      | (with_reducible exact wire_Int.mono _ _)
      | (with_reducible exact LeO.refl _)
      | (with_reducible exact LeO.none _)
      | (with_reducible refine LeO.ite ?_ ?_)
      | (with_reducible refine LeO.bind ?_ (fun _ => ?_))
      | exact ih0 _ _ _ _
      | exact ih1 _ _ _ _
      | exact ih2 _ _ _ _ _
      | exact ih3 _ _ _ _
      | exact wire_Bytes.mono _ _
      | exact wire_GetBytes.mono _ _ _
      | exact wire_GetInt.mono _ _
      | exact wire_Int.mono _ _
      | exact LeO.none _
      | refine LeO.ite ?_ ?_
      | refine LeO.bind ?_ (fun _ => ?_)
    · intro y0 y1 y2 y3
      unfold decklelaw01_WireBack.j1
      repeat' first
      | (with_reducible exact ih0 _ _ _ _)
      | (with_reducible exact ih1 _ _ _ _)
      | (with_reducible exact ih2 _ _ _ _ _)
      | (with_reducible exact ih3 _ _ _ _)
      | (with_reducible exact wire_Bytes.mono _ _)
      | (with_reducible exact wire_GetBytes.mono _ _ _)
      | (with_reducible exact wire_GetInt.mono _ _)
      | (with_reducible exact wire_Int.mono _ _)
      | (with_reducible exact LeO.refl _)
      | (with_reducible exact LeO.none _)
      | (with_reducible refine LeO.ite ?_ ?_)
      | (with_reducible refine LeO.bind ?_ (fun _ => ?_))
      | exact ih0 _ _ _ _
      | exact ih1 _ _ _ _
      | exact ih2 _ _ _ _ _
      | exact ih3 _ _ _ _
      | exact wire_Bytes.mono _ _
      | exact wire_GetBytes.mono _ _ _
      | exact wire_GetInt.mono _ _
      | exact wire_Int.mono _ _
      | exact LeO.none _
      | refine LeO.ite ?_ ?_
      | refine LeO.bind ?_ (fun _ => ?_)
    · intro y0 y1 y2 y3 y4
      unfold decklelaw01_WireBack.l0
      repeat' first
      | (with_reducible exact ih0 _ _ _ _)
      | (with_reducible exact ih1 _ _ _ _)
      | (with_reducible exact ih2 _ _ _ _ _)
      | (with_reducible exact ih3 _ _ _ _)
      | (with_reducible exact wire_Bytes.mono _ _)
      | (with_reducible exact wire_GetBytes.mono _ _ _)
      | (with_reducible exact wire_GetInt.mono _ _)
      | (with_reducible exact wire_Int.mono _ _)
      | (with_reducible exact LeO.refl _)
      | (with_reducible exact LeO.none _)
      | (with_reducible refine LeO.ite ?_ ?_)
      | (with_reducible refine LeO.bind ?_ (fun _ => ?_))
      | exact ih0 _ _ _ _
      | exact ih1 _ _ _ _
      | exact ih2 _ _ _ _ _
      | exact ih3 _ _ _ _
      | exact wire_Bytes.mono _ _
      | exact wire_GetBytes.mono _ _ _
      | exact wire_GetInt.mono _ _
      | exact wire_Int.mono _ _
      | exact LeO.none _
      | refine LeO.ite ?_ ?_
      | refine LeO.bind ?_ (fun _ => ?_)
    · intro y0 y1 y2 y3
      unfold decklelaw01_WireBack.l1
      repeat' first
      | (with_reducible exact ih0 _ _ _ _)
      | (with_reducible exact ih1 _ _ _ _)
      | (with_reducible exact ih2 _ _ _ _ _)
      | (with_reducible exact ih3 _ _ _ _)
      | (with_reducible exact wire_Bytes.mono _ _)
      | (with_reducible exact wire_GetBytes.mono _ _ _)
      | (with_reducible exact wire_GetInt.mono _ _)
      | (with_reducible exact wire_Int.mono _ _)
      | (with_reducible exact LeO.refl _)
      | (with_reducible exact LeO.none _)
      | (with_reducible refine LeO.ite ?_ ?_)
      | (with_reducible refine LeO.bind ?_ (fun _ => ?_))
      | exact ih0 _ _ _ _
      | exact ih1 _ _ _ _
      | exact ih2 _ _ _ _ _
      | exact ih3 _ _ _ _
      | exact wire_Bytes.mono _ _
      | exact wire_GetBytes.mono _ _ _
      | exact wire_GetInt.mono _ _
      | exact wire_Int.mono _ _
      | exact LeO.none _
      | refine LeO.ite ?_ ?_
      | refine LeO.bind ?_ (fun _ => ?_)
theorem decklelaw01_WireBack.mono : ∀ a0 a1 a2 k, LeO (decklelaw01_WireBack.f k a0 a1 a2) (decklelaw01_WireBack.f (k + 1) a0 a1 a2) := by
  intro a0 a1 a2 k
  obtain ⟨ih0, ih1, ih2, ih3⟩ := decklelaw01_WireBack.mono_l k
  unfold decklelaw01_WireBack.f
  repeat' first
      | (with_reducible exact ih0 _ _ _ _)
      | (with_reducible exact ih1 _ _ _ _)
      | (with_reducible exact ih2 _ _ _ _ _)
      | (with_reducible exact ih3 _ _ _ _)
      | (with_reducible exact wire_Bytes.mono _ _)
      | (with_reducible exact wire_GetBytes.mono _ _ _)
      | (with_reducible exact wire_GetInt.mono _ _)
      | (with_reducible exact wire_Int.mono _ _)
      | (with_reducible exact LeO.refl _)
      | (with_reducible exact LeO.none _)
      | (with_reducible refine LeO.ite ?_ ?_)
      | (with_reducible refine LeO.bind ?_ (fun _ => ?_))
      | exact ih0 _ _ _ _
      | exact ih1 _ _ _ _
      | exact ih2 _ _ _ _ _
      | exact ih3 _ _ _ _
      | exact wire_Bytes.mono _ _
      | exact wire_GetBytes.mono _ _ _
      | exact wire_GetInt.mono _ _
      | exact wire_Int.mono _ _
      | exact LeO.none _
      | refine LeO.ite ?_ ?_
      | refine LeO.bind ?_ (fun _ => ?_)
set_option maxHeartbeats 8000000 in
set_option maxRecDepth 100000 in
theorem decklelaw01_WireBack.calls (k : Nat) (a0 : Int) (A1 : Option Addr) (c1 : Nat) (l1 : List Int) (A2 : Option Addr) (c2 : Nat) (l2 : List Int) (r : Bool) (w : World) (hr1 : Kd.C (Kd.int .u8) w A1 l1.length l1) (hc1 : l1.length ≤ c1) (hr2 : Kd.C (Kd.int .u8) w A2 l2.length l2) (hc2 : l2.length ≤ c2) (h : decklelaw01_WireBack.f k a0 l1 l2 = some r) :
    Calls Try.prog 7 #[.int .i64 a0, .slice A1 l1.length c1, .slice A2 l2.length c2] w fun e w' => e = .returned (.bool r) ∧ Below w.heap.size w w' := by
  have HR1 := Aside0.mk hr1
  have HC1 := Aside0.mk hc1
  clear hr1 hc1
  have HR2 := Aside0.mk hr2
  have HC2 := Aside0.mk hc2
  clear hr2 hc2
  have HB := Aside0.mk (Below.refl w.heap.size w)
  have H : (if (l1.length : Int) > 1000 then (decklelaw01_WireBack.j0 k a0 l1 l2 true) else (decklelaw01_WireBack.j0 k a0 l1 l2 (decide ((l2.length : Int) > 1000)))) = some r := h
  clear h
  have HC4 := Aside0.mk H
  clear H
  go_enter Try.func7, Try.ntmps7
  go_upto_region 1 with (fail)
  go_cut [33] (fun v33 wc => ∃ (kq : Nat) (x33_3 : Bool), v33 = .bool x33_3 ∧ Aside0 (decklelaw01_WireBack.j0 kq a0 l1 l2 x33_3 = some r) ∧ Aside0 (kq ≤ k) ∧ Aside0 (Below w.heap.size w wc))
  case first =>
    have H := HC4.out
    clear HC4
    by_cases c5 : (l1.length : Int) > 1000
    · rw [if_pos c5] at H
      have c5b0 : decide (1000 < (l1.length : Int)) = true := decide_eq_true c5
      have c5b1 : decide (1000 < l1.length) = true := decide_eq_true (by omega)
      clear c5
      (first | rw [c5b0] | (simp only [i64_w, i32_w]; rw [c5b0]) | skip)
      have H' := Aside0.mk H
      clear H
      go_wp2
      go_meet
      case rel => exact ⟨_, (true), (by first | rfl | (simp; done) | (simp [*]; done)), H', ⟨by first | omega | exact Nat.le_refl _⟩, ⟨by repeat (first | (with_reducible first | exact HB.out | apply below_alloc | apply pw_below_drewN | apply below_drew1) | exact HB.out)⟩⟩
    · rw [if_neg c5] at H
      have c5b0 : decide (1000 < (l1.length : Int)) = false := decide_eq_false c5
      have c5b1 : decide (1000 < l1.length) = false := decide_eq_false (by omega)
      clear c5
      (first | rw [c5b0] | (simp only [i64_w, i32_w]; rw [c5b0]) | skip)
      have H' := Aside0.mk H
      clear H
      go_wp2
      go_meet
      case rel => exact ⟨_, (decide ((l2.length : Int) > 1000)), (by first | rfl | (simp; done) | (simp [*]; done)), H', ⟨by first | omega | exact Nat.le_refl _⟩, ⟨by repeat (first | (with_reducible first | exact HB.out | apply below_alloc | apply pw_below_drewN | apply below_drew1) | exact HB.out)⟩⟩
  case rest =>
    clear HC4
    try clear c1
    try clear c2
    try clear p2
    try clear c5
    try clear c5b0
    try clear c5b1
    obtain ⟨kq, x33_3, rfl, HA, HJ3, HB⟩ := hcut
    cases kq with
    | zero => exact absurd HA.out (by simp [decklelaw01_WireBack.j0])
    | succ kj3 =>
      have H := HA.out
      clear HA
      simp only [decklelaw01_WireBack.j0] at H
      by_cases c6 : x33_3 = true
      · subst c6
        have H1 : ((decklelaw01_alive.f).bind fun t134 => (some t134)) = some r := by rw [if_pos rfl] at H; exact H
        clear H
        have H := H1
        clear H1
        replace H := Option.bind_eq_some_iff.mp H
        obtain ⟨t134, A70, H⟩ := H
        replace H : (some t134) = some r := H
        have A7 := Aside0.mk A70
        clear A70
        obtain rfl := Option.some.inj H
        go_wp2_with (first | ((with_reducible refine gate_callee (f := 8) rfl ?_); refine goesL_ (some 34) rfl rfl Try.func8 (by kernel_rfl) rfl #[] rfl (by (try simp only [List.map_toArray, List.map_cons, List.map_nil]); first | done | rfl | (simp only [List.length_drop, List.length_take]; rfl)) ?_; (with_reducible refine (decklelaw01_alive.calls  t134 _ A7.out).mono ?_); rintro e w8 ⟨rfl, hb⟩; refine ⟨_, rfl, ?_⟩; have n0_ := Aside0.mk (below_step (by repeat (first | (with_reducible first | exact HB.out | apply below_alloc | apply pw_below_drewN | apply below_drew1) | exact HB.out)) hb); clear HB; have HB := n0_; clear n0_; (try clear hb); (try clear hb2); (try clear hk); (try clear hi)))
        go_ret
        exact ⟨by first | rfl | (simp [errW_none, errW_some] <;> rfl) | (simp [*, errW_none, errW_some] <;> rfl), by repeat (first | (with_reducible first | exact HB.out | apply below_alloc | apply pw_below_drewN | apply below_drew1) | exact HB.out)⟩
      · replace c6 := Bool.eq_false_iff.mpr c6
        subst c6
        have H1 : ((wire_Int.f kj3 a0).bind fun t135 => ((wire_Bytes.f kj3 l1).bind fun t138 => ((some (([] : List Int) : List Int)).bind fun y141 => (if y141.length + t135.length < 140737488355328 then ((some (y141 ++ t135 : List Int)).bind fun y144 => (if y144.length + l2.length < 140737488355328 then ((wire_GetInt.f kj3 (y144 ++ l2)).bind fun bt150 => ((some (([] : List Int) : List Int)).bind fun y153 => (if y153.length + t138.length < 140737488355328 then ((some (y153 ++ t138 : List Int)).bind fun y156 => (if y156.length + l2.length < 140737488355328 then ((wire_GetBytes.f kj3 (y156 ++ l2) (l1.length : Int)).bind fun bt162 => (if bt150.2.2 = 0 then (if bt150.1 = a0 then (if bt150.2.1 = (t135.length : Int) then (if bt162.2.2 = 0 then (if (strOfNums bt162.1).toList = (strOfNums l1).toList then (decklelaw01_WireBack.j1 kj3 l1 t135 t138 (bt162.2.1 != (t138.length : Int))) else (decklelaw01_WireBack.j1 kj3 l1 t135 t138 true)) else (decklelaw01_WireBack.j1 kj3 l1 t135 t138 true)) else (decklelaw01_WireBack.j1 kj3 l1 t135 t138 true)) else (decklelaw01_WireBack.j1 kj3 l1 t135 t138 true)) else (decklelaw01_WireBack.j1 kj3 l1 t135 t138 true))) else (none))) else (none)))) else (none))) else (none))))) = some r := by rw [if_neg (show ¬ (false = true) by decide)] at H; exact H
        clear H
        have H := H1
        clear H1
        replace H := Option.bind_eq_some_iff.mp H
        obtain ⟨t135, A90, H⟩ := H
        replace H : ((wire_Bytes.f kj3 l1).bind fun t138 => ((some (([] : List Int) : List Int)).bind fun y141 => (if y141.length + t135.length < 140737488355328 then ((some (y141 ++ t135 : List Int)).bind fun y144 => (if y144.length + l2.length < 140737488355328 then ((wire_GetInt.f kj3 (y144 ++ l2)).bind fun bt150 => ((some (([] : List Int) : List Int)).bind fun y153 => (if y153.length + t138.length < 140737488355328 then ((some (y153 ++ t138 : List Int)).bind fun y156 => (if y156.length + l2.length < 140737488355328 then ((wire_GetBytes.f kj3 (y156 ++ l2) (l1.length : Int)).bind fun bt162 => (if bt150.2.2 = 0 then (if bt150.1 = a0 then (if bt150.2.1 = (t135.length : Int) then (if bt162.2.2 = 0 then (if (strOfNums bt162.1).toList = (strOfNums l1).toList then (decklelaw01_WireBack.j1 kj3 l1 t135 t138 (bt162.2.1 != (t138.length : Int))) else (decklelaw01_WireBack.j1 kj3 l1 t135 t138 true)) else (decklelaw01_WireBack.j1 kj3 l1 t135 t138 true)) else (decklelaw01_WireBack.j1 kj3 l1 t135 t138 true)) else (decklelaw01_WireBack.j1 kj3 l1 t135 t138 true)) else (decklelaw01_WireBack.j1 kj3 l1 t135 t138 true))) else (none))) else (none)))) else (none))) else (none)))) = some r := H
        have A9 := Aside0.mk A90
        clear A90
        replace H := Option.bind_eq_some_iff.mp H
        obtain ⟨t138, A100, H⟩ := H
        replace H : ((some (([] : List Int) : List Int)).bind fun y141 => (if y141.length + t135.length < 140737488355328 then ((some (y141 ++ t135 : List Int)).bind fun y144 => (if y144.length + l2.length < 140737488355328 then ((wire_GetInt.f kj3 (y144 ++ l2)).bind fun bt150 => ((some (([] : List Int) : List Int)).bind fun y153 => (if y153.length + t138.length < 140737488355328 then ((some (y153 ++ t138 : List Int)).bind fun y156 => (if y156.length + l2.length < 140737488355328 then ((wire_GetBytes.f kj3 (y156 ++ l2) (l1.length : Int)).bind fun bt162 => (if bt150.2.2 = 0 then (if bt150.1 = a0 then (if bt150.2.1 = (t135.length : Int) then (if bt162.2.2 = 0 then (if (strOfNums bt162.1).toList = (strOfNums l1).toList then (decklelaw01_WireBack.j1 kj3 l1 t135 t138 (bt162.2.1 != (t138.length : Int))) else (decklelaw01_WireBack.j1 kj3 l1 t135 t138 true)) else (decklelaw01_WireBack.j1 kj3 l1 t135 t138 true)) else (decklelaw01_WireBack.j1 kj3 l1 t135 t138 true)) else (decklelaw01_WireBack.j1 kj3 l1 t135 t138 true)) else (decklelaw01_WireBack.j1 kj3 l1 t135 t138 true))) else (none))) else (none)))) else (none))) else (none))) = some r := H
        have A10 := Aside0.mk A100
        clear A100
        obtain ⟨y141, hy141⟩ : ∃ y_ : List Int, y_ = (([] : List Int)) := ⟨_, rfl⟩
        replace H : (if y141.length + t135.length < 140737488355328 then ((some (y141 ++ t135 : List Int)).bind fun y144 => (if y144.length + l2.length < 140737488355328 then ((wire_GetInt.f kj3 (y144 ++ l2)).bind fun bt150 => ((some (([] : List Int) : List Int)).bind fun y153 => (if y153.length + t138.length < 140737488355328 then ((some (y153 ++ t138 : List Int)).bind fun y156 => (if y156.length + l2.length < 140737488355328 then ((wire_GetBytes.f kj3 (y156 ++ l2) (l1.length : Int)).bind fun bt162 => (if bt150.2.2 = 0 then (if bt150.1 = a0 then (if bt150.2.1 = (t135.length : Int) then (if bt162.2.2 = 0 then (if (strOfNums bt162.1).toList = (strOfNums l1).toList then (decklelaw01_WireBack.j1 kj3 l1 t135 t138 (bt162.2.1 != (t138.length : Int))) else (decklelaw01_WireBack.j1 kj3 l1 t135 t138 true)) else (decklelaw01_WireBack.j1 kj3 l1 t135 t138 true)) else (decklelaw01_WireBack.j1 kj3 l1 t135 t138 true)) else (decklelaw01_WireBack.j1 kj3 l1 t135 t138 true)) else (decklelaw01_WireBack.j1 kj3 l1 t135 t138 true))) else (none))) else (none)))) else (none))) else (none)) = some r := by first | (rw [hy141]; with_reducible exact H) | (have H2_ := (Option.bind_some _ _).symm.trans H; rw [hy141]; with_reducible exact H2_) | (have H2_ := (Option.bind_some _ _).symm.trans H; with_reducible exact H2_) | with_reducible exact H | (rw [hy141]; exact H) | exact H
        have Ny141 := Aside0.mk hy141
        clear hy141
        by_cases c11 : y141.length + t135.length < 140737488355328
        · rw [if_pos c11] at H
          have LMc11 := Aside0.mk c11
          clear c11
          obtain ⟨y144, hy144⟩ : ∃ y_ : List Int, y_ = (y141 ++ t135) := ⟨_, rfl⟩
          replace H : (if y144.length + l2.length < 140737488355328 then ((wire_GetInt.f kj3 (y144 ++ l2)).bind fun bt150 => ((some (([] : List Int) : List Int)).bind fun y153 => (if y153.length + t138.length < 140737488355328 then ((some (y153 ++ t138 : List Int)).bind fun y156 => (if y156.length + l2.length < 140737488355328 then ((wire_GetBytes.f kj3 (y156 ++ l2) (l1.length : Int)).bind fun bt162 => (if bt150.2.2 = 0 then (if bt150.1 = a0 then (if bt150.2.1 = (t135.length : Int) then (if bt162.2.2 = 0 then (if (strOfNums bt162.1).toList = (strOfNums l1).toList then (decklelaw01_WireBack.j1 kj3 l1 t135 t138 (bt162.2.1 != (t138.length : Int))) else (decklelaw01_WireBack.j1 kj3 l1 t135 t138 true)) else (decklelaw01_WireBack.j1 kj3 l1 t135 t138 true)) else (decklelaw01_WireBack.j1 kj3 l1 t135 t138 true)) else (decklelaw01_WireBack.j1 kj3 l1 t135 t138 true)) else (decklelaw01_WireBack.j1 kj3 l1 t135 t138 true))) else (none))) else (none)))) else (none)) = some r := by first | (rw [hy144]; with_reducible exact H) | (have H2_ := (Option.bind_some _ _).symm.trans H; rw [hy144]; with_reducible exact H2_) | (have H2_ := (Option.bind_some _ _).symm.trans H; with_reducible exact H2_) | with_reducible exact H | (rw [hy144]; exact H) | exact H
          have Ny144 := Aside0.mk hy144
          clear hy144
          by_cases c12 : y144.length + l2.length < 140737488355328
          · rw [if_pos c12] at H
            have LMc12 := Aside0.mk c12
            clear c12
            obtain ⟨y147, hy147⟩ : ∃ y_ : List Int, y_ = (y144 ++ l2) := ⟨_, rfl⟩
            replace H : ((wire_GetInt.f kj3 y147).bind fun bt150 => ((some (([] : List Int) : List Int)).bind fun y153 => (if y153.length + t138.length < 140737488355328 then ((some (y153 ++ t138 : List Int)).bind fun y156 => (if y156.length + l2.length < 140737488355328 then ((wire_GetBytes.f kj3 (y156 ++ l2) (l1.length : Int)).bind fun bt162 => (if bt150.2.2 = 0 then (if bt150.1 = a0 then (if bt150.2.1 = (t135.length : Int) then (if bt162.2.2 = 0 then (if (strOfNums bt162.1).toList = (strOfNums l1).toList then (decklelaw01_WireBack.j1 kj3 l1 t135 t138 (bt162.2.1 != (t138.length : Int))) else (decklelaw01_WireBack.j1 kj3 l1 t135 t138 true)) else (decklelaw01_WireBack.j1 kj3 l1 t135 t138 true)) else (decklelaw01_WireBack.j1 kj3 l1 t135 t138 true)) else (decklelaw01_WireBack.j1 kj3 l1 t135 t138 true)) else (decklelaw01_WireBack.j1 kj3 l1 t135 t138 true))) else (none))) else (none)))) = some r := by first | (rw [hy147]; with_reducible exact H) | (have H2_ := (Option.bind_some _ _).symm.trans H; rw [hy147]; with_reducible exact H2_) | (have H2_ := (Option.bind_some _ _).symm.trans H; with_reducible exact H2_) | with_reducible exact H | (rw [hy147]; exact H) | exact H
            have Ny147 := Aside0.mk hy147
            clear hy147
            replace H := Option.bind_eq_some_iff.mp H
            obtain ⟨⟨t150, t151, t152⟩, A130, H⟩ := H
            replace H : ((some (([] : List Int) : List Int)).bind fun y153 => (if y153.length + t138.length < 140737488355328 then ((some (y153 ++ t138 : List Int)).bind fun y156 => (if y156.length + l2.length < 140737488355328 then ((wire_GetBytes.f kj3 (y156 ++ l2) (l1.length : Int)).bind fun bt162 => (if t152 = 0 then (if t150 = a0 then (if t151 = (t135.length : Int) then (if bt162.2.2 = 0 then (if (strOfNums bt162.1).toList = (strOfNums l1).toList then (decklelaw01_WireBack.j1 kj3 l1 t135 t138 (bt162.2.1 != (t138.length : Int))) else (decklelaw01_WireBack.j1 kj3 l1 t135 t138 true)) else (decklelaw01_WireBack.j1 kj3 l1 t135 t138 true)) else (decklelaw01_WireBack.j1 kj3 l1 t135 t138 true)) else (decklelaw01_WireBack.j1 kj3 l1 t135 t138 true)) else (decklelaw01_WireBack.j1 kj3 l1 t135 t138 true))) else (none))) else (none))) = some r := H
            have A13 := Aside0.mk A130
            clear A130
            obtain ⟨y153, hy153⟩ : ∃ y_ : List Int, y_ = (([] : List Int)) := ⟨_, rfl⟩
            replace H : (if y153.length + t138.length < 140737488355328 then ((some (y153 ++ t138 : List Int)).bind fun y156 => (if y156.length + l2.length < 140737488355328 then ((wire_GetBytes.f kj3 (y156 ++ l2) (l1.length : Int)).bind fun bt162 => (if t152 = 0 then (if t150 = a0 then (if t151 = (t135.length : Int) then (if bt162.2.2 = 0 then (if (strOfNums bt162.1).toList = (strOfNums l1).toList then (decklelaw01_WireBack.j1 kj3 l1 t135 t138 (bt162.2.1 != (t138.length : Int))) else (decklelaw01_WireBack.j1 kj3 l1 t135 t138 true)) else (decklelaw01_WireBack.j1 kj3 l1 t135 t138 true)) else (decklelaw01_WireBack.j1 kj3 l1 t135 t138 true)) else (decklelaw01_WireBack.j1 kj3 l1 t135 t138 true)) else (decklelaw01_WireBack.j1 kj3 l1 t135 t138 true))) else (none))) else (none)) = some r := by first | (rw [hy153]; with_reducible exact H) | (have H2_ := (Option.bind_some _ _).symm.trans H; rw [hy153]; with_reducible exact H2_) | (have H2_ := (Option.bind_some _ _).symm.trans H; with_reducible exact H2_) | with_reducible exact H | (rw [hy153]; exact H) | exact H
            have Ny153 := Aside0.mk hy153
            clear hy153
            by_cases c14 : y153.length + t138.length < 140737488355328
            · rw [if_pos c14] at H
              have LMc14 := Aside0.mk c14
              clear c14
              obtain ⟨y156, hy156⟩ : ∃ y_ : List Int, y_ = (y153 ++ t138) := ⟨_, rfl⟩
              replace H : (if y156.length + l2.length < 140737488355328 then ((wire_GetBytes.f kj3 (y156 ++ l2) (l1.length : Int)).bind fun bt162 => (if t152 = 0 then (if t150 = a0 then (if t151 = (t135.length : Int) then (if bt162.2.2 = 0 then (if (strOfNums bt162.1).toList = (strOfNums l1).toList then (decklelaw01_WireBack.j1 kj3 l1 t135 t138 (bt162.2.1 != (t138.length : Int))) else (decklelaw01_WireBack.j1 kj3 l1 t135 t138 true)) else (decklelaw01_WireBack.j1 kj3 l1 t135 t138 true)) else (decklelaw01_WireBack.j1 kj3 l1 t135 t138 true)) else (decklelaw01_WireBack.j1 kj3 l1 t135 t138 true)) else (decklelaw01_WireBack.j1 kj3 l1 t135 t138 true))) else (none)) = some r := by first | (rw [hy156]; with_reducible exact H) | (have H2_ := (Option.bind_some _ _).symm.trans H; rw [hy156]; with_reducible exact H2_) | (have H2_ := (Option.bind_some _ _).symm.trans H; with_reducible exact H2_) | with_reducible exact H | (rw [hy156]; exact H) | exact H
              have Ny156 := Aside0.mk hy156
              clear hy156
              by_cases c15 : y156.length + l2.length < 140737488355328
              · rw [if_pos c15] at H
                have LMc15 := Aside0.mk c15
                clear c15
                obtain ⟨y159, hy159⟩ : ∃ y_ : List Int, y_ = (y156 ++ l2) := ⟨_, rfl⟩
                replace H : ((wire_GetBytes.f kj3 y159 (l1.length : Int)).bind fun bt162 => (if t152 = 0 then (if t150 = a0 then (if t151 = (t135.length : Int) then (if bt162.2.2 = 0 then (if (strOfNums bt162.1).toList = (strOfNums l1).toList then (decklelaw01_WireBack.j1 kj3 l1 t135 t138 (bt162.2.1 != (t138.length : Int))) else (decklelaw01_WireBack.j1 kj3 l1 t135 t138 true)) else (decklelaw01_WireBack.j1 kj3 l1 t135 t138 true)) else (decklelaw01_WireBack.j1 kj3 l1 t135 t138 true)) else (decklelaw01_WireBack.j1 kj3 l1 t135 t138 true)) else (decklelaw01_WireBack.j1 kj3 l1 t135 t138 true))) = some r := by first | (rw [hy159]; with_reducible exact H) | (have H2_ := (Option.bind_some _ _).symm.trans H; rw [hy159]; with_reducible exact H2_) | (have H2_ := (Option.bind_some _ _).symm.trans H; with_reducible exact H2_) | with_reducible exact H | (rw [hy159]; exact H) | exact H
                have Ny159 := Aside0.mk hy159
                clear hy159
                replace H := Option.bind_eq_some_iff.mp H
                obtain ⟨⟨t162, t163, t164⟩, A160, H⟩ := H
                replace H : (if t152 = 0 then (if t150 = a0 then (if t151 = (t135.length : Int) then (if t164 = 0 then (if (strOfNums t162).toList = (strOfNums l1).toList then (decklelaw01_WireBack.j1 kj3 l1 t135 t138 (t163 != (t138.length : Int))) else (decklelaw01_WireBack.j1 kj3 l1 t135 t138 true)) else (decklelaw01_WireBack.j1 kj3 l1 t135 t138 true)) else (decklelaw01_WireBack.j1 kj3 l1 t135 t138 true)) else (decklelaw01_WireBack.j1 kj3 l1 t135 t138 true)) else (decklelaw01_WireBack.j1 kj3 l1 t135 t138 true)) = some r := H
                have A16 := Aside0.mk A160
                clear A160
                have HC17 := Aside0.mk H
                clear H
                go_upto_region 6 with (first | ((with_reducible refine gate_callee (f := 12) rfl ?_); refine goesL_ (some 36) rfl rfl Try.func12 (by kernel_rfl) rfl #[.int .i64 a0] rfl (by (try simp only [List.map_toArray, List.map_cons, List.map_nil]); first | done | rfl | (simp only [List.length_drop, List.length_take]; rfl)) ?_; (with_reducible refine (wire_Int.calls kj3 a0 t135 _ A9.out).mono ?_); rintro e w18 ⟨v136, rfl, ho0, hb⟩; refine ⟨_, rfl, ?_⟩; have n0_ := Aside0.mk (Kd.R_lower ho0 (below_size (by repeat (first | (with_reducible first | exact HB.out | apply below_alloc | apply pw_below_drewN | apply below_drew1) | exact HB.out)))); have n1_ := Aside0.mk (below_step (by repeat (first | (with_reducible first | exact HB.out | apply below_alloc | apply pw_below_drewN | apply below_drew1) | exact HB.out)) hb); clear HB; have HO137 := n0_; have HB := n1_; clear n0_ n1_; (try clear hb); (try clear hb2); (try clear hk); (try clear hi); (try clear ho0)) | ((with_reducible refine gate_callee (f := 14) rfl ?_); refine goesL_ (some 38) rfl rfl Try.func14 (by kernel_rfl) rfl #[.slice A1 l1.length c1] rfl (by (try simp only [List.map_toArray, List.map_cons, List.map_nil]); first | done | rfl | (simp only [List.length_drop, List.length_take]; rfl)) ?_; (with_reducible refine (wire_Bytes.calls kj3 _ _ l1 t138 _ ?side1 ?side2 A10.out).mono ?_); (case side1 => repeat (first | exact (Kd.C_below HR1.out HB.out) | (with_reducible refine Kd.C_alloc ?_ _) | (with_reducible refine Kd.C_drewN ?_ _) | (with_reducible refine Kd.C_drew ?_))); (case side2 => exact HC1.out); rintro e w19 ⟨v139, rfl, ho0, hb⟩; refine ⟨_, rfl, ?_⟩; have n0_ := Aside0.mk (Kd.R_elder' (by (with_reducible repeat (first | apply Kd.R_alloc | apply Kd.R_drewN | apply Kd.R_drew)); exact HO137.out) (Kd.R_base ho0) hb); have n1_ := Aside0.mk (Kd.R_lower (Kd.R_new' ho0 (Kd.R_lt (by (with_reducible repeat (first | apply Kd.R_alloc | apply Kd.R_drewN | apply Kd.R_drew)); exact HO137.out))) (below_size (by repeat (first | (with_reducible first | exact HB.out | apply below_alloc | apply pw_below_drewN | apply below_drew1) | exact HB.out)))); have n2_ := Aside0.mk (below_step (by repeat (first | (with_reducible first | exact HB.out | apply below_alloc | apply pw_below_drewN | apply below_drew1) | exact HB.out)) hb); clear HO137; clear HB; have HO137 := n0_; have HO140 := n1_; have HB := n2_; clear n0_ n1_ n2_; (try clear hb); (try clear hb2); (try clear hk); (try clear hi); (try clear ho0)) | ((with_reducible refine gate_dst (N := 40) rfl ?_); (try (refine gate_guard (by rfl) ?_; dsimp only)); refine Kd.R_lit (Kd.int .u8) _ 5 ?hg (N := 40) ?hd (xs := ([] : List Int)) (inner := []) (ok := fun _ => True) (okp := fun _ => True) ?hr ?hp (fun _ hk => hk) trivial (Below.refl _ _) (Nat.le_refl _) (by simp) ?_; (case hd => rfl); (case hg => rfl); (case hr => first | (go_simp; done) | (go_simp; rfl)); (case hp => exact (Reps.none _ _)); intro v142 w20 ho21 hb hg_ hnew_; clear hg_ hnew_; (first | rw [← Ny141.out] at ho21 | (simp only [Int.reduceToNat] at ho21; rw [← Ny141.out] at ho21)); have n0_ := Aside0.mk (Kd.R_elder' (by (with_reducible repeat (first | apply Kd.R_alloc | apply Kd.R_drewN | apply Kd.R_drew)); exact HO137.out) (Kd.R_base ho21) hb); have n1_ := Aside0.mk (Kd.R_elder' (by (with_reducible repeat (first | apply Kd.R_alloc | apply Kd.R_drewN | apply Kd.R_drew)); exact HO140.out) (Kd.R_base ho21) hb); have n2_ := Aside0.mk (Kd.R_lower (Kd.R_new' (Kd.R_new' ho21 (Kd.R_lt (by (with_reducible repeat (first | apply Kd.R_alloc | apply Kd.R_drewN | apply Kd.R_drew)); exact HO137.out))) (Kd.R_lt (by (with_reducible repeat (first | apply Kd.R_alloc | apply Kd.R_drewN | apply Kd.R_drew)); exact HO140.out))) (below_size (by repeat (first | (with_reducible first | exact HB.out | apply below_alloc | apply pw_below_drewN | apply below_drew1) | exact HB.out)))); have n3_ := Aside0.mk (below_step (by repeat (first | (with_reducible first | exact HB.out | apply below_alloc | apply pw_below_drewN | apply below_drew1) | exact HB.out)) hb); clear HO137; clear HO140; clear HB; have HO137 := n0_; have HO140 := n1_; have HO143 := n2_; have HB := n3_; clear n0_ n1_ n2_ n3_; clear hb ho21; obtain ⟨Ao23, co23, eo23⟩ := Kd.R_slice HO137.out; subst eo23) | ((with_reducible refine gate_builtin (b := .append) (xs := #[.tmp 40, .tmp 41]) rfl ?_); (try (refine gate_guard (by rfl) ?_; dsimp only)); at_builtin; refine Kd.R_append_rows (Kd.int .u8) (w0 := w) w.heap.size rfl (.tmp 40) (.tmp 41) 23 5 (.int .u8 0) 1 rfl Try.underlying23 info5 rfl (by decide) (by omega) v142 y141 t135 _ _ _ (fun k_ => some k_ ≠ (.slice Ao23 t135.length co23 : Value).ownBlock ∧ some k_ ≠ (v139 : Value).ownBlock) (fun _ => False) rfl rfl ?aO ?aR (fun _ _ h => h) (fun _ h => h.elim) ?aF ?aB ?aS ?aL ?_; (case aR => repeat (first | exact (Kd.R_reads' HO137.out).2.2 | (with_reducible refine Kd.C_alloc ?_ _) | (with_reducible refine Kd.C_drewN ?_ _) | (with_reducible refine Kd.C_drew ?_))); (case aB => exact (by repeat (first | (with_reducible first | exact HB.out | apply below_alloc | apply pw_below_drewN | apply below_drew1) | exact HB.out))); (case aF => exact (fun k_ hk => ⟨Kd.fresh' (Kd.R_lt (by (with_reducible repeat (first | apply Kd.R_alloc | apply Kd.R_drewN | apply Kd.R_drew)); exact HO137.out)) k_ hk, Kd.fresh' (Kd.R_lt (by (with_reducible repeat (first | apply Kd.R_alloc | apply Kd.R_drewN | apply Kd.R_drew)); exact HO140.out)) k_ hk⟩)); (case aO => exact (by (with_reducible repeat (first | apply Kd.R_alloc | apply Kd.R_drewN | apply Kd.R_drew)); exact Kd.R_mono HO143.out (fun _ hk => ⟨hk.1.2, hk.2⟩))); (case aS => exact (below_size (by repeat (first | (with_reducible first | exact HB.out | apply below_alloc | apply pw_below_drewN | apply below_drew1) | exact HB.out)))); (case aL => have := LMc11.out; omega); intro v145 w22 ho hb hg hat; rw [← Ny144.out] at ho; have n0_ := Aside0.mk (Kd.R_after (ok := (fun k_ => some k_ ≠ (v139 : Value).ownBlock)) (by (with_reducible repeat (first | apply Kd.R_alloc | apply Kd.R_drewN | apply Kd.R_drew)); exact Kd.R_mono HO137.out (fun _ hk => ⟨hk.1.2, hk.2⟩)) hg hat); have n1_ := Aside0.mk (Kd.R_after (ok := (fun k_ => some k_ ≠ (.slice Ao23 t135.length co23 : Value).ownBlock)) (by (with_reducible repeat (first | apply Kd.R_alloc | apply Kd.R_drewN | apply Kd.R_drew)); exact Kd.R_mono HO140.out (fun _ hk => ⟨hk.1.2, hk.2⟩)) hg hat); have n2_ := Aside0.mk (hb); have n3_ := Aside0.mk (ho); clear HO137; clear HO140; clear HB; clear HO143; have HO137 := n0_; have HO140 := n1_; have HB := n2_; have HO146 := n3_; clear n0_ n1_ n2_ n3_; clear ho hb hg hat) | ((with_reducible refine gate_builtin (b := .append) (xs := #[.tmp 42, .tmp 43]) rfl ?_); (try (refine gate_guard (by rfl) ?_; dsimp only)); at_builtin; refine Kd.R_append_rows (Kd.int .u8) (w0 := w) w.heap.size rfl (.tmp 42) (.tmp 43) 23 5 (.int .u8 0) 1 rfl Try.underlying23 info5 rfl (by decide) (by omega) v145 y144 l2 _ _ _ (fun k_ => some k_ ≠ (.slice Ao23 t135.length co23 : Value).ownBlock ∧ some k_ ≠ (v139 : Value).ownBlock) (fun _ => False) rfl rfl ?aO ?aR (fun _ _ h => h) (fun _ h => h.elim) ?aF ?aB ?aS ?aL ?_; (case aR => repeat (first | exact (Kd.C_below HR2.out HB.out) | (with_reducible refine Kd.C_alloc ?_ _) | (with_reducible refine Kd.C_drewN ?_ _) | (with_reducible refine Kd.C_drew ?_))); (case aB => exact (by repeat (first | (with_reducible first | exact HB.out | apply below_alloc | apply pw_below_drewN | apply below_drew1) | exact HB.out))); (case aF => exact (fun k_ hk => ⟨Kd.fresh' (Kd.R_lt (by (with_reducible repeat (first | apply Kd.R_alloc | apply Kd.R_drewN | apply Kd.R_drew)); exact HO137.out)) k_ hk, Kd.fresh' (Kd.R_lt (by (with_reducible repeat (first | apply Kd.R_alloc | apply Kd.R_drewN | apply Kd.R_drew)); exact HO140.out)) k_ hk⟩)); (case aO => exact (by (with_reducible repeat (first | apply Kd.R_alloc | apply Kd.R_drewN | apply Kd.R_drew)); exact HO146.out)); (case aS => exact (below_size (by repeat (first | (with_reducible first | exact HB.out | apply below_alloc | apply pw_below_drewN | apply below_drew1) | exact HB.out)))); (case aL => have := LMc12.out; omega); intro v148 w24 ho hb hg hat; rw [← Ny147.out] at ho; have n0_ := Aside0.mk (Kd.R_after (ok := (fun k_ => some k_ ≠ (v139 : Value).ownBlock)) (by (with_reducible repeat (first | apply Kd.R_alloc | apply Kd.R_drewN | apply Kd.R_drew)); exact HO137.out) hg hat); have n1_ := Aside0.mk (Kd.R_after (ok := (fun k_ => some k_ ≠ (.slice Ao23 t135.length co23 : Value).ownBlock)) (by (with_reducible repeat (first | apply Kd.R_alloc | apply Kd.R_drewN | apply Kd.R_drew)); exact HO140.out) hg hat); have n2_ := Aside0.mk (hb); have n3_ := Aside0.mk (ho); clear HO137; clear HO140; clear HB; clear HO146; have HO137 := n0_; have HO140 := n1_; have HB := n2_; have HO149 := n3_; clear n0_ n1_ n2_ n3_; clear ho hb hg hat; obtain ⟨Ao25, co25, eo25⟩ := Kd.R_slice HO149.out; subst eo25) | ((with_reducible refine gate_callee (f := 23) rfl ?_); refine goesL_ (some 45) rfl rfl Try.func23 (by kernel_rfl) rfl #[.slice Ao25 y147.length co25] rfl (by (try simp only [List.map_toArray, List.map_cons, List.map_nil]); first | done | rfl | (simp only [List.length_drop, List.length_take]; rfl)) ?_; (with_reducible refine (wire_GetInt.calls kj3 _ _ y147 t150 t151 t152 _ ?side1 ?side2 A13.out).mono ?_); (case side1 => repeat (first | exact (Kd.R_reads' HO149.out).2.2 | (with_reducible refine Kd.C_alloc ?_ _) | (with_reducible refine Kd.C_drewN ?_ _) | (with_reducible refine Kd.C_drew ?_))); (case side2 => exact (Kd.R_reads' HO149.out).2.1); rintro e w26 ⟨rfl, hb⟩; refine ⟨_, rfl, ?_⟩; have n0_ := Aside0.mk (Kd.R_below (by (with_reducible repeat (first | apply Kd.R_alloc | apply Kd.R_drewN | apply Kd.R_drew)); exact HO137.out) hb); have n1_ := Aside0.mk (Kd.R_below (by (with_reducible repeat (first | apply Kd.R_alloc | apply Kd.R_drewN | apply Kd.R_drew)); exact HO140.out) hb); have n2_ := Aside0.mk (Kd.R_below (by (with_reducible repeat (first | apply Kd.R_alloc | apply Kd.R_drewN | apply Kd.R_drew)); exact HO149.out) hb); have n3_ := Aside0.mk (below_step (by repeat (first | (with_reducible first | exact HB.out | apply below_alloc | apply pw_below_drewN | apply below_drew1) | exact HB.out)) hb); clear HO137; clear HO140; clear HO149; clear HB; have HO137 := n0_; have HO140 := n1_; have HO149 := n2_; have HB := n3_; clear n0_ n1_ n2_ n3_; (try clear hb); (try clear hb2); (try clear hk); (try clear hi)) | ((with_reducible refine gate_dst (N := 50) rfl ?_); (try (refine gate_guard (by rfl) ?_; dsimp only)); refine Kd.R_lit (Kd.int .u8) _ 5 ?hg (N := 50) ?hd (xs := ([] : List Int)) (inner := []) (ok := fun _ => True) (okp := fun _ => True) ?hr ?hp (fun _ hk => hk) trivial (Below.refl _ _) (Nat.le_refl _) (by simp) ?_; (case hd => rfl); (case hg => rfl); (case hr => first | (go_simp; done) | (go_simp; rfl)); (case hp => exact (Reps.none _ _)); intro v154 w27 ho28 hb hg_ hnew_; clear hg_ hnew_; (first | rw [← Ny153.out] at ho28 | (simp only [Int.reduceToNat] at ho28; rw [← Ny153.out] at ho28)); have n0_ := Aside0.mk (Kd.R_elder' (by (with_reducible repeat (first | apply Kd.R_alloc | apply Kd.R_drewN | apply Kd.R_drew)); exact HO137.out) (Kd.R_base ho28) hb); have n1_ := Aside0.mk (Kd.R_elder' (by (with_reducible repeat (first | apply Kd.R_alloc | apply Kd.R_drewN | apply Kd.R_drew)); exact HO140.out) (Kd.R_base ho28) hb); have n2_ := Aside0.mk (Kd.R_elder' (by (with_reducible repeat (first | apply Kd.R_alloc | apply Kd.R_drewN | apply Kd.R_drew)); exact HO149.out) (Kd.R_base ho28) hb); have n3_ := Aside0.mk (Kd.R_lower (Kd.R_new' (Kd.R_new' (Kd.R_new' ho28 (Kd.R_lt (by (with_reducible repeat (first | apply Kd.R_alloc | apply Kd.R_drewN | apply Kd.R_drew)); exact HO137.out))) (Kd.R_lt (by (with_reducible repeat (first | apply Kd.R_alloc | apply Kd.R_drewN | apply Kd.R_drew)); exact HO140.out))) (Kd.R_lt (by (with_reducible repeat (first | apply Kd.R_alloc | apply Kd.R_drewN | apply Kd.R_drew)); exact HO149.out))) (below_size (by repeat (first | (with_reducible first | exact HB.out | apply below_alloc | apply pw_below_drewN | apply below_drew1) | exact HB.out)))); have n4_ := Aside0.mk (below_step (by repeat (first | (with_reducible first | exact HB.out | apply below_alloc | apply pw_below_drewN | apply below_drew1) | exact HB.out)) hb); clear HO137; clear HO140; clear HO149; clear HB; have HO137 := n0_; have HO140 := n1_; have HO149 := n2_; have HO155 := n3_; have HB := n4_; clear n0_ n1_ n2_ n3_ n4_; clear hb ho28; obtain ⟨Ao30, co30, eo30⟩ := Kd.R_slice HO140.out; subst eo30) | ((with_reducible refine gate_builtin (b := .append) (xs := #[.tmp 50, .tmp 51]) rfl ?_); (try (refine gate_guard (by rfl) ?_; dsimp only)); at_builtin; refine Kd.R_append_rows (Kd.int .u8) (w0 := w) w.heap.size rfl (.tmp 50) (.tmp 51) 23 5 (.int .u8 0) 1 rfl Try.underlying23 info5 rfl (by decide) (by omega) v154 y153 t138 _ _ _ (fun k_ => some k_ ≠ (.slice Ao23 t135.length co23 : Value).ownBlock ∧ some k_ ≠ (.slice Ao30 t138.length co30 : Value).ownBlock ∧ some k_ ≠ (.slice Ao25 y147.length co25 : Value).ownBlock) (fun _ => False) rfl rfl ?aO ?aR (fun _ _ h => h) (fun _ h => h.elim) ?aF ?aB ?aS ?aL ?_; (case aR => repeat (first | exact (Kd.R_reads' HO140.out).2.2 | (with_reducible refine Kd.C_alloc ?_ _) | (with_reducible refine Kd.C_drewN ?_ _) | (with_reducible refine Kd.C_drew ?_))); (case aB => exact (by repeat (first | (with_reducible first | exact HB.out | apply below_alloc | apply pw_below_drewN | apply below_drew1) | exact HB.out))); (case aF => exact (fun k_ hk => ⟨Kd.fresh' (Kd.R_lt (by (with_reducible repeat (first | apply Kd.R_alloc | apply Kd.R_drewN | apply Kd.R_drew)); exact HO137.out)) k_ hk, Kd.fresh' (Kd.R_lt (by (with_reducible repeat (first | apply Kd.R_alloc | apply Kd.R_drewN | apply Kd.R_drew)); exact HO140.out)) k_ hk, Kd.fresh' (Kd.R_lt (by (with_reducible repeat (first | apply Kd.R_alloc | apply Kd.R_drewN | apply Kd.R_drew)); exact HO149.out)) k_ hk⟩)); (case aO => exact (by (with_reducible repeat (first | apply Kd.R_alloc | apply Kd.R_drewN | apply Kd.R_drew)); exact Kd.R_mono HO155.out (fun _ hk => ⟨hk.1.1.2, ⟨hk.1.2, hk.2⟩⟩))); (case aS => exact (below_size (by repeat (first | (with_reducible first | exact HB.out | apply below_alloc | apply pw_below_drewN | apply below_drew1) | exact HB.out)))); (case aL => have := LMc14.out; omega); intro v157 w29 ho hb hg hat; rw [← Ny156.out] at ho; have n0_ := Aside0.mk (Kd.R_after (ok := (fun k_ => some k_ ≠ (.slice Ao30 t138.length co30 : Value).ownBlock ∧ some k_ ≠ (.slice Ao25 y147.length co25 : Value).ownBlock)) (by (with_reducible repeat (first | apply Kd.R_alloc | apply Kd.R_drewN | apply Kd.R_drew)); exact HO137.out) hg hat); have n1_ := Aside0.mk (Kd.R_after (ok := (fun k_ => some k_ ≠ (.slice Ao23 t135.length co23 : Value).ownBlock ∧ some k_ ≠ (.slice Ao25 y147.length co25 : Value).ownBlock)) (by (with_reducible repeat (first | apply Kd.R_alloc | apply Kd.R_drewN | apply Kd.R_drew)); exact HO140.out) hg hat); have n2_ := Aside0.mk (Kd.R_after (ok := (fun k_ => some k_ ≠ (.slice Ao23 t135.length co23 : Value).ownBlock ∧ some k_ ≠ (.slice Ao30 t138.length co30 : Value).ownBlock)) (by (with_reducible repeat (first | apply Kd.R_alloc | apply Kd.R_drewN | apply Kd.R_drew)); exact HO149.out) hg hat); have n3_ := Aside0.mk (hb); have n4_ := Aside0.mk (ho); clear HO137; clear HO140; clear HO149; clear HB; clear HO155; have HO137 := n0_; have HO140 := n1_; have HO149 := n2_; have HB := n3_; have HO158 := n4_; clear n0_ n1_ n2_ n3_ n4_; clear ho hb hg hat) | ((with_reducible refine gate_builtin (b := .append) (xs := #[.tmp 52, .tmp 53]) rfl ?_); (try (refine gate_guard (by rfl) ?_; dsimp only)); at_builtin; refine Kd.R_append_rows (Kd.int .u8) (w0 := w) w.heap.size rfl (.tmp 52) (.tmp 53) 23 5 (.int .u8 0) 1 rfl Try.underlying23 info5 rfl (by decide) (by omega) v157 y156 l2 _ _ _ (fun k_ => some k_ ≠ (.slice Ao23 t135.length co23 : Value).ownBlock ∧ some k_ ≠ (.slice Ao30 t138.length co30 : Value).ownBlock ∧ some k_ ≠ (.slice Ao25 y147.length co25 : Value).ownBlock) (fun _ => False) rfl rfl ?aO ?aR (fun _ _ h => h) (fun _ h => h.elim) ?aF ?aB ?aS ?aL ?_; (case aR => repeat (first | exact (Kd.C_below HR2.out HB.out) | (with_reducible refine Kd.C_alloc ?_ _) | (with_reducible refine Kd.C_drewN ?_ _) | (with_reducible refine Kd.C_drew ?_))); (case aB => exact (by repeat (first | (with_reducible first | exact HB.out | apply below_alloc | apply pw_below_drewN | apply below_drew1) | exact HB.out))); (case aF => exact (fun k_ hk => ⟨Kd.fresh' (Kd.R_lt (by (with_reducible repeat (first | apply Kd.R_alloc | apply Kd.R_drewN | apply Kd.R_drew)); exact HO137.out)) k_ hk, Kd.fresh' (Kd.R_lt (by (with_reducible repeat (first | apply Kd.R_alloc | apply Kd.R_drewN | apply Kd.R_drew)); exact HO140.out)) k_ hk, Kd.fresh' (Kd.R_lt (by (with_reducible repeat (first | apply Kd.R_alloc | apply Kd.R_drewN | apply Kd.R_drew)); exact HO149.out)) k_ hk⟩)); (case aO => exact (by (with_reducible repeat (first | apply Kd.R_alloc | apply Kd.R_drewN | apply Kd.R_drew)); exact HO158.out)); (case aS => exact (below_size (by repeat (first | (with_reducible first | exact HB.out | apply below_alloc | apply pw_below_drewN | apply below_drew1) | exact HB.out)))); (case aL => have := LMc15.out; omega); intro v160 w31 ho hb hg hat; rw [← Ny159.out] at ho; have n0_ := Aside0.mk (Kd.R_after (ok := (fun k_ => some k_ ≠ (.slice Ao30 t138.length co30 : Value).ownBlock ∧ some k_ ≠ (.slice Ao25 y147.length co25 : Value).ownBlock)) (by (with_reducible repeat (first | apply Kd.R_alloc | apply Kd.R_drewN | apply Kd.R_drew)); exact HO137.out) hg hat); have n1_ := Aside0.mk (Kd.R_after (ok := (fun k_ => some k_ ≠ (.slice Ao23 t135.length co23 : Value).ownBlock ∧ some k_ ≠ (.slice Ao25 y147.length co25 : Value).ownBlock)) (by (with_reducible repeat (first | apply Kd.R_alloc | apply Kd.R_drewN | apply Kd.R_drew)); exact HO140.out) hg hat); have n2_ := Aside0.mk (Kd.R_after (ok := (fun k_ => some k_ ≠ (.slice Ao23 t135.length co23 : Value).ownBlock ∧ some k_ ≠ (.slice Ao30 t138.length co30 : Value).ownBlock)) (by (with_reducible repeat (first | apply Kd.R_alloc | apply Kd.R_drewN | apply Kd.R_drew)); exact HO149.out) hg hat); have n3_ := Aside0.mk (hb); have n4_ := Aside0.mk (ho); clear HO137; clear HO140; clear HO149; clear HB; clear HO158; have HO137 := n0_; have HO140 := n1_; have HO149 := n2_; have HB := n3_; have HO161 := n4_; clear n0_ n1_ n2_ n3_ n4_; clear ho hb hg hat; obtain ⟨Ao32, co32, eo32⟩ := Kd.R_slice HO161.out; subst eo32) | ((with_reducible refine gate_callee (f := 21) rfl ?_); refine goesL_ (some 57) rfl rfl Try.func21 (by kernel_rfl) rfl #[.slice Ao32 y159.length co32, .int .i64 (l1.length : Int)] rfl (by (try simp only [List.map_toArray, List.map_cons, List.map_nil]); first | done | rfl | (simp only [List.length_drop, List.length_take]; rfl)) ?_; (with_reducible refine (wire_GetBytes.calls kj3 _ _ y159 (l1.length : Int) t162 t163 t164 _ ?side1 ?side2 A16.out).mono ?_); (case side1 => repeat (first | exact (Kd.R_reads' HO161.out).2.2 | (with_reducible refine Kd.C_alloc ?_ _) | (with_reducible refine Kd.C_drewN ?_ _) | (with_reducible refine Kd.C_drew ?_))); (case side2 => exact (Kd.R_reads' HO161.out).2.1); rintro e w33 ⟨v165, rfl, ho0, hb⟩; refine ⟨_, rfl, ?_⟩; have n0_ := Aside0.mk (Kd.R_elder' (by (with_reducible repeat (first | apply Kd.R_alloc | apply Kd.R_drewN | apply Kd.R_drew)); exact HO137.out) (Kd.R_base ho0) hb); have n1_ := Aside0.mk (Kd.R_elder' (by (with_reducible repeat (first | apply Kd.R_alloc | apply Kd.R_drewN | apply Kd.R_drew)); exact HO140.out) (Kd.R_base ho0) hb); have n2_ := Aside0.mk (Kd.R_elder' (by (with_reducible repeat (first | apply Kd.R_alloc | apply Kd.R_drewN | apply Kd.R_drew)); exact HO149.out) (Kd.R_base ho0) hb); have n3_ := Aside0.mk (Kd.R_elder' (by (with_reducible repeat (first | apply Kd.R_alloc | apply Kd.R_drewN | apply Kd.R_drew)); exact HO161.out) (Kd.R_base ho0) hb); have n4_ := Aside0.mk (Kd.R_lower (Kd.R_new' (Kd.R_new' (Kd.R_new' (Kd.R_new' ho0 (Kd.R_lt (by (with_reducible repeat (first | apply Kd.R_alloc | apply Kd.R_drewN | apply Kd.R_drew)); exact HO137.out))) (Kd.R_lt (by (with_reducible repeat (first | apply Kd.R_alloc | apply Kd.R_drewN | apply Kd.R_drew)); exact HO140.out))) (Kd.R_lt (by (with_reducible repeat (first | apply Kd.R_alloc | apply Kd.R_drewN | apply Kd.R_drew)); exact HO149.out))) (Kd.R_lt (by (with_reducible repeat (first | apply Kd.R_alloc | apply Kd.R_drewN | apply Kd.R_drew)); exact HO161.out))) (below_size (by repeat (first | (with_reducible first | exact HB.out | apply below_alloc | apply pw_below_drewN | apply below_drew1) | exact HB.out)))); have n5_ := Aside0.mk (below_step (by repeat (first | (with_reducible first | exact HB.out | apply below_alloc | apply pw_below_drewN | apply below_drew1) | exact HB.out)) hb); clear HO137; clear HO140; clear HO149; clear HO161; clear HB; have HO137 := n0_; have HO140 := n1_; have HO149 := n2_; have HO161 := n3_; have HO166 := n4_; have HB := n5_; clear n0_ n1_ n2_ n3_ n4_ n5_; (try clear hb); (try clear hb2); (try clear hk); (try clear hi); (try clear ho0)))
                (try simp only [Act.put, List.setIfInBounds_toArray, List.set_cons_zero, List.set_cons_succ])
                go_cut [90] (fun v90 wc => ∃ (kq : Nat) (x90_16 : Bool), v90 = .bool x90_16 ∧ Aside0 (decklelaw01_WireBack.j1 kq l1 t135 t138 x90_16 = some r) ∧ Aside0 (kq ≤ kj3) ∧ Aside0 (Kd.R (Kd.int .u8) 5 wc w.heap.size (fun k_ => some k_ ≠ ((.slice Ao30 t138.length co30) : Value).ownBlock) (.slice Ao23 t135.length co23) t135) ∧ Aside0 (Kd.R (Kd.int .u8) 5 wc w.heap.size (fun k_ => some k_ ≠ ((.slice Ao23 t135.length co23) : Value).ownBlock) (.slice Ao30 t138.length co30) t138) ∧ Aside0 (Below w.heap.size w wc))
                case first =>
                  have H := HC17.out
                  clear HC17
                  by_cases c34 : t152 = 0
                  · rw [if_pos c34] at H
                    have c34b0 : (t152 == 0) = true := beq_iff_eq.mpr c34
                    have c34b1 : (t152 != 0) = false := bne_eq_false_iff_eq.mpr c34
                    clear c34
                    (first | rw [c34b0] | (simp only [i64_w, i32_w]; rw [c34b0]) | skip)
                    by_cases c35 : t150 = a0
                    · rw [if_pos c35] at H
                      have c35b0 : (t150 == a0) = true := beq_iff_eq.mpr c35
                      have c35b1 : (t150 != a0) = false := bne_eq_false_iff_eq.mpr c35
                      clear c35
                      by_cases c36 : t151 = (t135.length : Int)
                      · rw [if_pos c36] at H
                        have c36b0 : (t151 == (t135.length : Int)) = true := beq_iff_eq.mpr c36
                        have c36b1 : (t151 != (t135.length : Int)) = false := bne_eq_false_iff_eq.mpr c36
                        clear c36
                        by_cases c37 : t164 = 0
                        · rw [if_pos c37] at H
                          have c37b0 : (t164 == 0) = true := beq_iff_eq.mpr c37
                          have c37b1 : (t164 != 0) = false := bne_eq_false_iff_eq.mpr c37
                          clear c37
                          by_cases c38 : (strOfNums t162).toList = (strOfNums l1).toList
                          · rw [if_pos c38] at H
                            have c38b0 : ((strOfNums t162).toList == (strOfNums l1).toList) = true := beq_iff_eq.mpr c38
                            have c38b1 : ((strOfNums t162).toList != (strOfNums l1).toList) = false := bne_eq_false_iff_eq.mpr c38
                            clear c38
                            have H' := Aside0.mk H
                            clear H
                            have hcv39 := own_string (P := Try.prog) Try.underlying23 Try.underlying5 Try.underlying9 (Kd.own_of_R HO166.out)
                            have hcv40 := Kd.C_string (P := Try.prog) (A := A1) (c := c1) Try.underlying23 Try.underlying5 Try.underlying9 (Kd.C_below HR1.out HB.out)
                            go_wp2
                            go_meet
                            case rel => exact ⟨_, ((t163 != (t138.length : Int))), (by first | rfl | (simp; done) | (simp [*]; done)), H', ⟨by have := HJ3.out; first | omega | exact Nat.le_refl _⟩, ⟨by (with_reducible repeat (first | apply Kd.R_alloc | apply Kd.R_drewN | apply Kd.R_drew)); exact Kd.R_mono HO137.out (fun _ hk => hk.1.1.1)⟩, ⟨by (with_reducible repeat (first | apply Kd.R_alloc | apply Kd.R_drewN | apply Kd.R_drew)); exact Kd.R_mono HO140.out (fun _ hk => hk.1.1.1)⟩, ⟨by repeat (first | (with_reducible first | exact HB.out | apply below_alloc | apply pw_below_drewN | apply below_drew1) | exact HB.out)⟩⟩
                          · rw [if_neg c38] at H
                            have c38b0 : ((strOfNums t162).toList == (strOfNums l1).toList) = false := beq_eq_false_iff_ne.mpr c38
                            have c38b1 : ((strOfNums t162).toList != (strOfNums l1).toList) = true := bne_iff_ne.mpr c38
                            have H' := Aside0.mk H
                            clear H
                            have hcv41 := own_string (P := Try.prog) Try.underlying23 Try.underlying5 Try.underlying9 (Kd.own_of_R HO166.out)
                            have hcv42 := Kd.C_string (P := Try.prog) (A := A1) (c := c1) Try.underlying23 Try.underlying5 Try.underlying9 (Kd.C_below HR1.out HB.out)
                            go_wp2
                            go_meet
                            case rel => exact ⟨_, (true), (by first | rfl | (simp; done) | (simp [*]; done)), H', ⟨by have := HJ3.out; first | omega | exact Nat.le_refl _⟩, ⟨by (with_reducible repeat (first | apply Kd.R_alloc | apply Kd.R_drewN | apply Kd.R_drew)); exact Kd.R_mono HO137.out (fun _ hk => hk.1.1.1)⟩, ⟨by (with_reducible repeat (first | apply Kd.R_alloc | apply Kd.R_drewN | apply Kd.R_drew)); exact Kd.R_mono HO140.out (fun _ hk => hk.1.1.1)⟩, ⟨by repeat (first | (with_reducible first | exact HB.out | apply below_alloc | apply pw_below_drewN | apply below_drew1) | exact HB.out)⟩⟩
                        · rw [if_neg c37] at H
                          have c37b0 : (t164 == 0) = false := beq_eq_false_iff_ne.mpr c37
                          have c37b1 : (t164 != 0) = true := bne_iff_ne.mpr c37
                          have H' := Aside0.mk H
                          clear H
                          go_wp2
                          go_meet
                          case rel => exact ⟨_, (true), (by first | rfl | (simp; done) | (simp [*]; done)), H', ⟨by have := HJ3.out; first | omega | exact Nat.le_refl _⟩, ⟨by (with_reducible repeat (first | apply Kd.R_alloc | apply Kd.R_drewN | apply Kd.R_drew)); exact Kd.R_mono HO137.out (fun _ hk => hk.1.1.1)⟩, ⟨by (with_reducible repeat (first | apply Kd.R_alloc | apply Kd.R_drewN | apply Kd.R_drew)); exact Kd.R_mono HO140.out (fun _ hk => hk.1.1.1)⟩, ⟨by repeat (first | (with_reducible first | exact HB.out | apply below_alloc | apply pw_below_drewN | apply below_drew1) | exact HB.out)⟩⟩
                      · rw [if_neg c36] at H
                        have c36b0 : (t151 == (t135.length : Int)) = false := beq_eq_false_iff_ne.mpr c36
                        have c36b1 : (t151 != (t135.length : Int)) = true := bne_iff_ne.mpr c36
                        have H' := Aside0.mk H
                        clear H
                        go_wp2
                        go_meet
                        case rel => exact ⟨_, (true), (by first | rfl | (simp; done) | (simp [*]; done)), H', ⟨by have := HJ3.out; first | omega | exact Nat.le_refl _⟩, ⟨by (with_reducible repeat (first | apply Kd.R_alloc | apply Kd.R_drewN | apply Kd.R_drew)); exact Kd.R_mono HO137.out (fun _ hk => hk.1.1.1)⟩, ⟨by (with_reducible repeat (first | apply Kd.R_alloc | apply Kd.R_drewN | apply Kd.R_drew)); exact Kd.R_mono HO140.out (fun _ hk => hk.1.1.1)⟩, ⟨by repeat (first | (with_reducible first | exact HB.out | apply below_alloc | apply pw_below_drewN | apply below_drew1) | exact HB.out)⟩⟩
                    · rw [if_neg c35] at H
                      have c35b0 : (t150 == a0) = false := beq_eq_false_iff_ne.mpr c35
                      have c35b1 : (t150 != a0) = true := bne_iff_ne.mpr c35
                      have H' := Aside0.mk H
                      clear H
                      go_wp2
                      go_meet
                      case rel => exact ⟨_, (true), (by first | rfl | (simp; done) | (simp [*]; done)), H', ⟨by have := HJ3.out; first | omega | exact Nat.le_refl _⟩, ⟨by (with_reducible repeat (first | apply Kd.R_alloc | apply Kd.R_drewN | apply Kd.R_drew)); exact Kd.R_mono HO137.out (fun _ hk => hk.1.1.1)⟩, ⟨by (with_reducible repeat (first | apply Kd.R_alloc | apply Kd.R_drewN | apply Kd.R_drew)); exact Kd.R_mono HO140.out (fun _ hk => hk.1.1.1)⟩, ⟨by repeat (first | (with_reducible first | exact HB.out | apply below_alloc | apply pw_below_drewN | apply below_drew1) | exact HB.out)⟩⟩
                  · rw [if_neg c34] at H
                    have c34b0 : (t152 == 0) = false := beq_eq_false_iff_ne.mpr c34
                    have c34b1 : (t152 != 0) = true := bne_iff_ne.mpr c34
                    (first | rw [c34b0] | (simp only [i64_w, i32_w]; rw [c34b0]) | skip)
                    have H' := Aside0.mk H
                    clear H
                    go_wp2
                    go_meet
                    case rel => exact ⟨_, (true), (by first | rfl | (simp; done) | (simp [*]; done)), H', ⟨by have := HJ3.out; first | omega | exact Nat.le_refl _⟩, ⟨by (with_reducible repeat (first | apply Kd.R_alloc | apply Kd.R_drewN | apply Kd.R_drew)); exact Kd.R_mono HO137.out (fun _ hk => hk.1.1.1)⟩, ⟨by (with_reducible repeat (first | apply Kd.R_alloc | apply Kd.R_drewN | apply Kd.R_drew)); exact Kd.R_mono HO140.out (fun _ hk => hk.1.1.1)⟩, ⟨by repeat (first | (with_reducible first | exact HB.out | apply below_alloc | apply pw_below_drewN | apply below_drew1) | exact HB.out)⟩⟩
                case rest =>
                  clear HC17
                  try clear c1
                  try clear c2
                  try clear p2
                  try clear c3
                  try clear hcv3
                  try clear hcv4
                  try clear c5
                  try clear c5b0
                  try clear c5b1
                  try clear c6
                  try clear c7
                  try clear c8
                  try clear c11
                  try clear c12
                  try clear c14
                  try clear c15
                  try clear c21
                  try clear c23
                  try clear c34
                  try clear c34b0
                  try clear c34b1
                  try clear c35
                  try clear c35b0
                  try clear c35b1
                  try clear c36
                  try clear c36b0
                  try clear c36b1
                  try clear c37
                  try clear c37b0
                  try clear c37b1
                  try clear c38
                  try clear c38b0
                  try clear c38b1
                  try clear hcv39
                  try clear hcv40
                  try clear hcv41
                  try clear hcv42
                  try clear p2
                  obtain ⟨kq, x90_16, rfl, HA, HJ16, HO_7, HO_8, HB⟩ := hcut
                  cases kq with
                  | zero => exact absurd HA.out (by simp [decklelaw01_WireBack.j1])
                  | succ kj16 =>
                    have H := HA.out
                    clear HA
                    simp only [decklelaw01_WireBack.j1] at H
                    by_cases c43 : x90_16 = true
                    · subst c43
                      have H1 : (some false) = some r := by rw [if_pos rfl] at H; exact H
                      clear H
                      have H := H1
                      clear H1
                      obtain rfl := Option.some.inj H
                      go_wp2
                      go_ret
                      exact ⟨by first | rfl | (simp [errW_none, errW_some] <;> rfl) | (simp [*, errW_none, errW_some] <;> rfl), by repeat (first | (with_reducible first | exact HB.out | apply below_alloc | apply pw_below_drewN | apply below_drew1) | exact HB.out)⟩
                    · replace c43 := Bool.eq_false_iff.mpr c43
                      subst c43
                      have H1 : (decklelaw01_WireBack.l0 kj16 l1 t135 t138 (t135.length : Int) 0) = some r := by rw [if_neg (show ¬ (false = true) by decide)] at H; exact H
                      clear H
                      have H := H1
                      clear H1
                      have H' := Aside0.mk H
                      clear H
                      go_wp2
                      go_loopg [93] kj16 (fun kq v93 w' => ∃ (x93_3 : Int), v93 = .int .i64 x93_3 ∧ Aside0 (decklelaw01_WireBack.l0 kq l1 t135 t138 (t135.length : Int) x93_3 = some r) ∧ Aside0 (kq ≤ kj16) ∧ Aside0 (Kd.R (Kd.int .u8) 5 w' w.heap.size (fun k_ => some k_ ≠ ((.slice Ao30 t138.length co30) : Value).ownBlock) (.slice Ao23 t135.length co23) t135) ∧ Aside0 (Kd.R (Kd.int .u8) 5 w' w.heap.size (fun k_ => some k_ ≠ ((.slice Ao23 t135.length co23) : Value).ownBlock) (.slice Ao30 t138.length co30) t138) ∧ Aside0 (Below w.heap.size w w'))
                      case atStart => exact ⟨(0), (by first | rfl | (simp; done) | (simp [*]; done)), H', ⟨Nat.le_refl _⟩, ⟨by (with_reducible repeat (first | apply Kd.R_alloc | apply Kd.R_drewN | apply Kd.R_drew)); exact HO_7.out⟩, ⟨by (with_reducible repeat (first | apply Kd.R_alloc | apply Kd.R_drewN | apply Kd.R_drew)); exact HO_8.out⟩, ⟨by repeat (first | (with_reducible first | exact HB.out | apply below_alloc | apply pw_below_drewN | apply below_drew1) | exact HB.out)⟩⟩
                      case round =>
                        clear H'
                        try clear c1
                        try clear c2
                        try clear p2
                        try clear c3
                        try clear hcv3
                        try clear c4
                        try clear hcv4
                        try clear c5
                        try clear c5b0
                        try clear c5b1
                        try clear c6
                        try clear c7
                        try clear c8
                        try clear c11
                        try clear c12
                        try clear c14
                        try clear c15
                        try clear c21
                        try clear c23
                        try clear c34
                        try clear c34b0
                        try clear c34b1
                        try clear c35
                        try clear c35b0
                        try clear c35b1
                        try clear c36
                        try clear c36b0
                        try clear c36b1
                        try clear c37
                        try clear c37b0
                        try clear c37b1
                        try clear c38
                        try clear c38b0
                        try clear c38b1
                        try clear hcv39
                        try clear hcv40
                        try clear hcv41
                        try clear hcv42
                        try clear c43
                        try clear p2
                        obtain ⟨x93_3, rfl, HA, HK3, HO_7, HO_8, HB⟩ := hrel
                        cases gk with
                        | zero => exact absurd HA.out (by simp [decklelaw01_WireBack.l0])
                        | succ k3 =>
                          have H := HA.out
                          clear HA
                          simp only [decklelaw01_WireBack.l0] at H
                          by_cases c44 : x93_3 < (t135.length : Int)
                          · rw [if_pos c44] at H
                            have c44b0 : decide (x93_3 < (t135.length : Int)) = true := decide_eq_true c44
                            clear c44
                            by_cases c45 : 0 ≤ x93_3
                            · rw [if_pos c45] at H
                              have c45b0 := eq_true c45
                              have c45b1 : decide (0 ≤ x93_3) = true := decide_eq_true c45
                              clear c45
                              by_cases c46 : x93_3 ≤ (t135.length : Int)
                              · rw [if_pos c46] at H
                                have c46b0 := eq_true c46
                                have c46b1 : decide (x93_3 ≤ (t135.length : Int)) = true := decide_eq_true c46
                                clear c46
                                obtain ⟨y167, hy167⟩ : ∃ y_ : List Int, y_ = (t135.take (x93_3 : Int).toNat) := ⟨_, rfl⟩
                                replace H : ((wire_GetInt.f k3 y167).bind fun bt171 => (if bt171.2.2 = 5 then (decklelaw01_WireBack.l0 k3 l1 t135 t138 (t135.length : Int) (wrap64 (x93_3 + 1))) else (some false))) = some r := by first | (rw [hy167]; with_reducible exact H) | (have H2_ := (Option.bind_some _ _).symm.trans H; rw [hy167]; with_reducible exact H2_) | (have H2_ := (Option.bind_some _ _).symm.trans H; with_reducible exact H2_) | with_reducible exact H | (rw [hy167]; exact H) | exact H
                                have Ny167 := Aside0.mk hy167
                                clear hy167
                                replace H := Option.bind_eq_some_iff.mp H
                                obtain ⟨⟨t171, t172, t173⟩, A470, H⟩ := H
                                replace H : (if t173 = 5 then (decklelaw01_WireBack.l0 k3 l1 t135 t138 (t135.length : Int) (wrap64 (x93_3 + 1))) else (some false)) = some r := H
                                have A47 := Aside0.mk A470
                                clear A470
                                by_cases c48 : t173 = 5
                                · rw [if_pos c48] at H
                                  have c48b0 : (t173 == 5) = true := beq_iff_eq.mpr c48
                                  have c48b1 : (t173 != 5) = false := bne_eq_false_iff_eq.mpr c48
                                  clear c48
                                  have H' := Aside0.mk H
                                  clear H
                                  have q49 : (x93_3 : Int) ≤ ((t135.length : Int) : Int) := of_decide_eq_true (by first | (with_reducible assumption) | assumption)
                                  obtain ⟨i049, hi049, _, hsz49, _⟩ := info_parts info5
                                  have hroom49 : t135.length ≤ co23 := (Kd.R_reads' HO_7.out).2.1
                                  have hC49 : Kd.C (Kd.int .u8) _ Ao23 t135.length t135 := (Kd.R_reads' HO_7.out).2.2
                                  have hcut49 := cut_to (P := Try.prog) 23 5 .i64 Try.underlying23 hi049 Ao23 t135.length co23 x93_3 (of_decide_eq_true (by first | (with_reducible assumption) | assumption)) q49 hroom49
                                  have hr49 := Kd.C_take (m := (x93_3 : Int).toNat) hC49 (by omega)
                                  have hy49 : y167.length = (x93_3 : Int).toNat := (by rw [Ny167.out, List.length_take]; omega)
                                  rw [← Ny167.out] at hr49
                                  rw [← hy49] at hcut49
                                  have HR170 := Aside0.mk hr49
                                  have HC170 := Aside0.mk (show y167.length ≤ co23 from by omega)
                                  clear hr49 hC49 hroom49 hi049 hsz49
                                  have KY49 := Aside0.mk hy49
                                  clear hy49
                                  have KL49 := Aside0.mk (show (x93_3 : Int).toNat ≤ t135.length from by omega)
                                  replace q49 := eq_true q49
                                  go_wp2_with (first | ((with_reducible refine gate_callee (f := 23) rfl ?_); refine goesL_ (some 100) rfl rfl Try.func23 (by kernel_rfl) rfl #[.slice Ao23 y167.length co23] rfl (by (try simp only [List.map_toArray, List.map_cons, List.map_nil]); first | done | rfl | (simp only [List.length_drop, List.length_take]; rfl)) ?_; (with_reducible refine (wire_GetInt.calls k3 _ _ y167 t171 t172 t173 _ ?side1 ?side2 A47.out).mono ?_); (case side1 => repeat (first | exact (by repeat (first | (with_reducible exact HR170.out) | (with_reducible refine Kd.C_alloc ?_ _) | (with_reducible refine Kd.C_drewN ?_ _) | (with_reducible refine Kd.C_drew ?_) | exact HR170.out)) | (with_reducible refine Kd.C_alloc ?_ _) | (with_reducible refine Kd.C_drewN ?_ _) | (with_reducible refine Kd.C_drew ?_))); (case side2 => exact HC170.out); rintro e w50 ⟨rfl, hb⟩; refine ⟨_, rfl, ?_⟩; have n0_ := Aside0.mk (Kd.R_below (by (with_reducible repeat (first | apply Kd.R_alloc | apply Kd.R_drewN | apply Kd.R_drew)); exact HO_7.out) hb); have n1_ := Aside0.mk (Kd.R_below (by (with_reducible repeat (first | apply Kd.R_alloc | apply Kd.R_drewN | apply Kd.R_drew)); exact HO_8.out) hb); have n2_ := Aside0.mk (Kd.C_below (by repeat (first | (with_reducible exact HR170.out) | (with_reducible refine Kd.C_alloc ?_ _) | (with_reducible refine Kd.C_drewN ?_ _) | (with_reducible refine Kd.C_drew ?_) | exact HR170.out)) hb); have n3_ := Aside0.mk (below_step (by repeat (first | (with_reducible first | exact HB.out | apply below_alloc | apply pw_below_drewN | apply below_drew1) | exact HB.out)) hb); clear HO_7; clear HO_8; clear HR170; clear HB; have HO_7 := n0_; have HO_8 := n1_; have HR170 := n2_; have HB := n3_; clear n0_ n1_ n2_ n3_; (try clear hb); (try clear hb2); (try clear hk); (try clear hi)))
                                  go_roundg k3
                                  case measure => have := HJ3.out; have := HJ16.out; have := HK3.out; omega
                                  case rel => exact ⟨(wrap64 (x93_3 + 1)), (by first | rfl | (simp; done) | (simp [*]; done)), H', ⟨by have := HJ3.out; have := HJ16.out; have := HK3.out; omega⟩, ⟨by (with_reducible repeat (first | apply Kd.R_alloc | apply Kd.R_drewN | apply Kd.R_drew)); exact HO_7.out⟩, ⟨by (with_reducible repeat (first | apply Kd.R_alloc | apply Kd.R_drewN | apply Kd.R_drew)); exact HO_8.out⟩, ⟨by repeat (first | (with_reducible first | exact HB.out | apply below_alloc | apply pw_below_drewN | apply below_drew1) | exact HB.out)⟩⟩
                                · rw [if_neg c48] at H
                                  have c48b0 : (t173 == 5) = false := beq_eq_false_iff_ne.mpr c48
                                  have c48b1 : (t173 != 5) = true := bne_iff_ne.mpr c48
                                  obtain rfl := Option.some.inj H
                                  have q51 : (x93_3 : Int) ≤ ((t135.length : Int) : Int) := of_decide_eq_true (by first | (with_reducible assumption) | assumption)
                                  obtain ⟨i051, hi051, _, hsz51, _⟩ := info_parts info5
                                  have hroom51 : t135.length ≤ co23 := (Kd.R_reads' HO_7.out).2.1
                                  have hC51 : Kd.C (Kd.int .u8) _ Ao23 t135.length t135 := (Kd.R_reads' HO_7.out).2.2
                                  have hcut51 := cut_to (P := Try.prog) 23 5 .i64 Try.underlying23 hi051 Ao23 t135.length co23 x93_3 (of_decide_eq_true (by first | (with_reducible assumption) | assumption)) q51 hroom51
                                  have hr51 := Kd.C_take (m := (x93_3 : Int).toNat) hC51 (by omega)
                                  have hy51 : y167.length = (x93_3 : Int).toNat := (by rw [Ny167.out, List.length_take]; omega)
                                  rw [← Ny167.out] at hr51
                                  rw [← hy51] at hcut51
                                  have HR170 := Aside0.mk hr51
                                  have HC170 := Aside0.mk (show y167.length ≤ co23 from by omega)
                                  clear hr51 hC51 hroom51 hi051 hsz51
                                  have KY51 := Aside0.mk hy51
                                  clear hy51
                                  have KL51 := Aside0.mk (show (x93_3 : Int).toNat ≤ t135.length from by omega)
                                  replace q51 := eq_true q51
                                  go_wp2_with (first | ((with_reducible refine gate_callee (f := 23) rfl ?_); refine goesL_ (some 100) rfl rfl Try.func23 (by kernel_rfl) rfl #[.slice Ao23 y167.length co23] rfl (by (try simp only [List.map_toArray, List.map_cons, List.map_nil]); first | done | rfl | (simp only [List.length_drop, List.length_take]; rfl)) ?_; (with_reducible refine (wire_GetInt.calls k3 _ _ y167 t171 t172 t173 _ ?side1 ?side2 A47.out).mono ?_); (case side1 => repeat (first | exact (by repeat (first | (with_reducible exact HR170.out) | (with_reducible refine Kd.C_alloc ?_ _) | (with_reducible refine Kd.C_drewN ?_ _) | (with_reducible refine Kd.C_drew ?_) | exact HR170.out)) | (with_reducible refine Kd.C_alloc ?_ _) | (with_reducible refine Kd.C_drewN ?_ _) | (with_reducible refine Kd.C_drew ?_))); (case side2 => exact HC170.out); rintro e w52 ⟨rfl, hb⟩; refine ⟨_, rfl, ?_⟩; have n0_ := Aside0.mk (Kd.R_below (by (with_reducible repeat (first | apply Kd.R_alloc | apply Kd.R_drewN | apply Kd.R_drew)); exact HO_7.out) hb); have n1_ := Aside0.mk (Kd.R_below (by (with_reducible repeat (first | apply Kd.R_alloc | apply Kd.R_drewN | apply Kd.R_drew)); exact HO_8.out) hb); have n2_ := Aside0.mk (Kd.C_below (by repeat (first | (with_reducible exact HR170.out) | (with_reducible refine Kd.C_alloc ?_ _) | (with_reducible refine Kd.C_drewN ?_ _) | (with_reducible refine Kd.C_drew ?_) | exact HR170.out)) hb); have n3_ := Aside0.mk (below_step (by repeat (first | (with_reducible first | exact HB.out | apply below_alloc | apply pw_below_drewN | apply below_drew1) | exact HB.out)) hb); clear HO_7; clear HO_8; clear HR170; clear HB; have HO_7 := n0_; have HO_8 := n1_; have HR170 := n2_; have HB := n3_; clear n0_ n1_ n2_ n3_; (try clear hb); (try clear hb2); (try clear hk); (try clear hi)))
                                  go_ret
                                  exact ⟨by first | rfl | (simp [errW_none, errW_some] <;> rfl) | (simp [*, errW_none, errW_some] <;> rfl), by repeat (first | (with_reducible first | exact HB.out | apply below_alloc | apply pw_below_drewN | apply below_drew1) | exact HB.out)⟩
                              · rw [if_neg c46] at H
                                exact absurd H (by simp)
                            · rw [if_neg c45] at H
                              exact absurd H (by simp)
                          · rw [if_neg c44] at H
                            have c44b0 : decide (x93_3 < (t135.length : Int)) = false := decide_eq_false c44
                            clear c44
                            have H' := Aside0.mk H
                            clear H
                            go_wp2
                            go_loopg [109] k3 (fun kq v109 w' => ∃ (x109_4 : Int), v109 = .int .i64 x109_4 ∧ Aside0 (decklelaw01_WireBack.l1 kq l1 t138 (t138.length : Int) x109_4 = some r) ∧ Aside0 (kq ≤ k3) ∧ Aside0 (Kd.R (Kd.int .u8) 5 w' w.heap.size (fun _ => True) (.slice Ao30 t138.length co30) t138) ∧ Aside0 (Below w.heap.size w w'))
                            case atStart => exact ⟨(0), (by first | rfl | (simp; done) | (simp [*]; done)), H', ⟨Nat.le_refl _⟩, ⟨by (with_reducible repeat (first | apply Kd.R_alloc | apply Kd.R_drewN | apply Kd.R_drew)); exact Kd.R_mono HO_8.out (fun _ hk => trivial)⟩, ⟨by repeat (first | (with_reducible first | exact HB.out | apply below_alloc | apply pw_below_drewN | apply below_drew1) | exact HB.out)⟩⟩
                            case round =>
                              clear H'
                              try clear c1
                              try clear c2
                              try clear p2
                              try clear c3
                              try clear hcv3
                              try clear c4
                              try clear q4
                              try clear hcv4
                              try clear c5
                              try clear c5b0
                              try clear c5b1
                              try clear q5
                              try clear c6
                              try clear p6
                              try clear c7
                              try clear c8
                              try clear c11
                              try clear c12
                              try clear c14
                              try clear c15
                              try clear c21
                              try clear c23
                              try clear c34
                              try clear c34b0
                              try clear c34b1
                              try clear c35
                              try clear c35b0
                              try clear c35b1
                              try clear c36
                              try clear c36b0
                              try clear c36b1
                              try clear c37
                              try clear c37b0
                              try clear c37b1
                              try clear c38
                              try clear c38b0
                              try clear c38b1
                              try clear hcv39
                              try clear hcv40
                              try clear hcv41
                              try clear hcv42
                              try clear c43
                              try clear c44
                              try clear c44b0
                              try clear c45
                              try clear c45b0
                              try clear c45b1
                              try clear c46
                              try clear c46b0
                              try clear c46b1
                              try clear c48
                              try clear c48b0
                              try clear c48b1
                              try clear q49
                              try clear q51
                              try clear p2
                              try clear q49
                              try clear q51
                              obtain ⟨x109_4, rfl, HA, HK4, HO_8, HB⟩ := hrel
                              cases gk with
                              | zero => exact absurd HA.out (by simp [decklelaw01_WireBack.l1])
                              | succ k4 =>
                                have H := HA.out
                                clear HA
                                simp only [decklelaw01_WireBack.l1] at H
                                by_cases c53 : x109_4 < (t138.length : Int)
                                · rw [if_pos c53] at H
                                  have c53b0 : decide (x109_4 < (t138.length : Int)) = true := decide_eq_true c53
                                  clear c53
                                  by_cases c54 : 0 ≤ x109_4
                                  · rw [if_pos c54] at H
                                    have c54b0 := eq_true c54
                                    have c54b1 : decide (0 ≤ x109_4) = true := decide_eq_true c54
                                    clear c54
                                    by_cases c55 : x109_4 ≤ (t138.length : Int)
                                    · rw [if_pos c55] at H
                                      have c55b0 := eq_true c55
                                      have c55b1 : decide (x109_4 ≤ (t138.length : Int)) = true := decide_eq_true c55
                                      clear c55
                                      obtain ⟨y174, hy174⟩ : ∃ y_ : List Int, y_ = (t138.take (x109_4 : Int).toNat) := ⟨_, rfl⟩
                                      replace H : ((wire_GetBytes.f k4 y174 (l1.length : Int)).bind fun bt178 => (if bt178.2.2 = 5 then (if (bt178.1.length : Int) = 0 then (decklelaw01_WireBack.l1 k4 l1 t138 (t138.length : Int) (wrap64 (x109_4 + 1))) else (some false)) else (some false))) = some r := by first | (rw [hy174]; with_reducible exact H) | (have H2_ := (Option.bind_some _ _).symm.trans H; rw [hy174]; with_reducible exact H2_) | (have H2_ := (Option.bind_some _ _).symm.trans H; with_reducible exact H2_) | with_reducible exact H | (rw [hy174]; exact H) | exact H
                                      have Ny174 := Aside0.mk hy174
                                      clear hy174
                                      replace H := Option.bind_eq_some_iff.mp H
                                      obtain ⟨⟨t178, t179, t180⟩, A560, H⟩ := H
                                      replace H : (if t180 = 5 then (if (t178.length : Int) = 0 then (decklelaw01_WireBack.l1 k4 l1 t138 (t138.length : Int) (wrap64 (x109_4 + 1))) else (some false)) else (some false)) = some r := H
                                      have A56 := Aside0.mk A560
                                      clear A560
                                      by_cases c57 : t180 = 5
                                      · rw [if_pos c57] at H
                                        have c57b0 : (t180 == 5) = true := beq_iff_eq.mpr c57
                                        have c57b1 : (t180 != 5) = false := bne_eq_false_iff_eq.mpr c57
                                        clear c57
                                        by_cases c58 : (t178.length : Int) = 0
                                        · rw [if_pos c58] at H
                                          have c58b0 : ((t178.length : Int) == 0) = true := beq_iff_eq.mpr c58
                                          have c58b1 : ((t178.length : Int) != 0) = false := bne_eq_false_iff_eq.mpr c58
                                          clear c58
                                          have H' := Aside0.mk H
                                          clear H
                                          have q59 : (x109_4 : Int) ≤ ((t138.length : Int) : Int) := of_decide_eq_true (by first | (with_reducible assumption) | assumption)
                                          obtain ⟨i059, hi059, _, hsz59, _⟩ := info_parts info5
                                          have hroom59 : t138.length ≤ co30 := (Kd.R_reads' HO_8.out).2.1
                                          have hC59 : Kd.C (Kd.int .u8) _ Ao30 t138.length t138 := (Kd.R_reads' HO_8.out).2.2
                                          have hcut59 := cut_to (P := Try.prog) 23 5 .i64 Try.underlying23 hi059 Ao30 t138.length co30 x109_4 (of_decide_eq_true (by first | (with_reducible assumption) | assumption)) q59 hroom59
                                          have hr59 := Kd.C_take (m := (x109_4 : Int).toNat) hC59 (by omega)
                                          have hy59 : y174.length = (x109_4 : Int).toNat := (by rw [Ny174.out, List.length_take]; omega)
                                          rw [← Ny174.out] at hr59
                                          rw [← hy59] at hcut59
                                          have HR177 := Aside0.mk hr59
                                          have HC177 := Aside0.mk (show y174.length ≤ co30 from by omega)
                                          clear hr59 hC59 hroom59 hi059 hsz59
                                          have KY59 := Aside0.mk hy59
                                          clear hy59
                                          have KL59 := Aside0.mk (show (x109_4 : Int).toNat ≤ t138.length from by omega)
                                          replace q59 := eq_true q59
                                          go_wp2_with (first | ((with_reducible refine gate_callee (f := 21) rfl ?_); refine goesL_ (some 118) rfl rfl Try.func21 (by kernel_rfl) rfl #[.slice Ao30 y174.length co30, .int .i64 (l1.length : Int)] rfl (by (try simp only [List.map_toArray, List.map_cons, List.map_nil]); first | done | rfl | (simp only [List.length_drop, List.length_take]; rfl)) ?_; (with_reducible refine (wire_GetBytes.calls k4 _ _ y174 (l1.length : Int) t178 t179 t180 _ ?side1 ?side2 A56.out).mono ?_); (case side1 => repeat (first | exact (by repeat (first | (with_reducible exact HR177.out) | (with_reducible refine Kd.C_alloc ?_ _) | (with_reducible refine Kd.C_drewN ?_ _) | (with_reducible refine Kd.C_drew ?_) | exact HR177.out)) | (with_reducible refine Kd.C_alloc ?_ _) | (with_reducible refine Kd.C_drewN ?_ _) | (with_reducible refine Kd.C_drew ?_))); (case side2 => exact HC177.out); rintro e w60 ⟨v181, rfl, ho0, hb⟩; refine ⟨_, rfl, ?_⟩; have n0_ := Aside0.mk (Kd.R_elder' (by (with_reducible repeat (first | apply Kd.R_alloc | apply Kd.R_drewN | apply Kd.R_drew)); exact HO_8.out) (Kd.R_base ho0) hb); have n1_ := Aside0.mk (Kd.R_lower (Kd.R_new' ho0 (Kd.R_lt (by (with_reducible repeat (first | apply Kd.R_alloc | apply Kd.R_drewN | apply Kd.R_drew)); exact HO_8.out))) (below_size (by repeat (first | (with_reducible first | exact HB.out | apply below_alloc | apply pw_below_drewN | apply below_drew1) | exact HB.out)))); have n2_ := Aside0.mk (Kd.C_below (by repeat (first | (with_reducible exact HR177.out) | (with_reducible refine Kd.C_alloc ?_ _) | (with_reducible refine Kd.C_drewN ?_ _) | (with_reducible refine Kd.C_drew ?_) | exact HR177.out)) hb); have n3_ := Aside0.mk (below_step (by repeat (first | (with_reducible first | exact HB.out | apply below_alloc | apply pw_below_drewN | apply below_drew1) | exact HB.out)) hb); clear HO_8; clear HR177; clear HB; have HO_8 := n0_; have HO182 := n1_; have HR177 := n2_; have HB := n3_; clear n0_ n1_ n2_ n3_; (try clear hb); (try clear hb2); (try clear hk); (try clear hi); (try clear ho0); obtain ⟨Ao61, co61, eo61⟩ := Kd.R_slice HO182.out; subst eo61))
                                          go_roundg k4
                                          case measure => have := HJ3.out; have := HJ16.out; have := HK3.out; have := HK4.out; omega
                                          case rel => exact ⟨(wrap64 (x109_4 + 1)), (by first | rfl | (simp; done) | (simp [*]; done)), H', ⟨by have := HJ3.out; have := HJ16.out; have := HK3.out; have := HK4.out; omega⟩, ⟨by (with_reducible repeat (first | apply Kd.R_alloc | apply Kd.R_drewN | apply Kd.R_drew)); exact Kd.R_mono HO_8.out (fun _ hk => trivial)⟩, ⟨by repeat (first | (with_reducible first | exact HB.out | apply below_alloc | apply pw_below_drewN | apply below_drew1) | exact HB.out)⟩⟩
                                        · rw [if_neg c58] at H
                                          have c58b0 : ((t178.length : Int) == 0) = false := beq_eq_false_iff_ne.mpr c58
                                          have c58b1 : ((t178.length : Int) != 0) = true := bne_iff_ne.mpr c58
                                          have c58b2 : ¬ (t178 = []) := fun h_ => c58 (by rw [h_]; rfl)
                                          obtain rfl := Option.some.inj H
                                          have q62 : (x109_4 : Int) ≤ ((t138.length : Int) : Int) := of_decide_eq_true (by first | (with_reducible assumption) | assumption)
                                          obtain ⟨i062, hi062, _, hsz62, _⟩ := info_parts info5
                                          have hroom62 : t138.length ≤ co30 := (Kd.R_reads' HO_8.out).2.1
                                          have hC62 : Kd.C (Kd.int .u8) _ Ao30 t138.length t138 := (Kd.R_reads' HO_8.out).2.2
                                          have hcut62 := cut_to (P := Try.prog) 23 5 .i64 Try.underlying23 hi062 Ao30 t138.length co30 x109_4 (of_decide_eq_true (by first | (with_reducible assumption) | assumption)) q62 hroom62
                                          have hr62 := Kd.C_take (m := (x109_4 : Int).toNat) hC62 (by omega)
                                          have hy62 : y174.length = (x109_4 : Int).toNat := (by rw [Ny174.out, List.length_take]; omega)
                                          rw [← Ny174.out] at hr62
                                          rw [← hy62] at hcut62
                                          have HR177 := Aside0.mk hr62
                                          have HC177 := Aside0.mk (show y174.length ≤ co30 from by omega)
                                          clear hr62 hC62 hroom62 hi062 hsz62
                                          have KY62 := Aside0.mk hy62
                                          clear hy62
                                          have KL62 := Aside0.mk (show (x109_4 : Int).toNat ≤ t138.length from by omega)
                                          replace q62 := eq_true q62
                                          go_wp2_with (first | ((with_reducible refine gate_callee (f := 21) rfl ?_); refine goesL_ (some 118) rfl rfl Try.func21 (by kernel_rfl) rfl #[.slice Ao30 y174.length co30, .int .i64 (l1.length : Int)] rfl (by (try simp only [List.map_toArray, List.map_cons, List.map_nil]); first | done | rfl | (simp only [List.length_drop, List.length_take]; rfl)) ?_; (with_reducible refine (wire_GetBytes.calls k4 _ _ y174 (l1.length : Int) t178 t179 t180 _ ?side1 ?side2 A56.out).mono ?_); (case side1 => repeat (first | exact (by repeat (first | (with_reducible exact HR177.out) | (with_reducible refine Kd.C_alloc ?_ _) | (with_reducible refine Kd.C_drewN ?_ _) | (with_reducible refine Kd.C_drew ?_) | exact HR177.out)) | (with_reducible refine Kd.C_alloc ?_ _) | (with_reducible refine Kd.C_drewN ?_ _) | (with_reducible refine Kd.C_drew ?_))); (case side2 => exact HC177.out); rintro e w63 ⟨v181, rfl, ho0, hb⟩; refine ⟨_, rfl, ?_⟩; have n0_ := Aside0.mk (Kd.R_elder' (by (with_reducible repeat (first | apply Kd.R_alloc | apply Kd.R_drewN | apply Kd.R_drew)); exact HO_8.out) (Kd.R_base ho0) hb); have n1_ := Aside0.mk (Kd.R_lower (Kd.R_new' ho0 (Kd.R_lt (by (with_reducible repeat (first | apply Kd.R_alloc | apply Kd.R_drewN | apply Kd.R_drew)); exact HO_8.out))) (below_size (by repeat (first | (with_reducible first | exact HB.out | apply below_alloc | apply pw_below_drewN | apply below_drew1) | exact HB.out)))); have n2_ := Aside0.mk (Kd.C_below (by repeat (first | (with_reducible exact HR177.out) | (with_reducible refine Kd.C_alloc ?_ _) | (with_reducible refine Kd.C_drewN ?_ _) | (with_reducible refine Kd.C_drew ?_) | exact HR177.out)) hb); have n3_ := Aside0.mk (below_step (by repeat (first | (with_reducible first | exact HB.out | apply below_alloc | apply pw_below_drewN | apply below_drew1) | exact HB.out)) hb); clear HO_8; clear HR177; clear HB; have HO_8 := n0_; have HO182 := n1_; have HR177 := n2_; have HB := n3_; clear n0_ n1_ n2_ n3_; (try clear hb); (try clear hb2); (try clear hk); (try clear hi); (try clear ho0); obtain ⟨Ao64, co64, eo64⟩ := Kd.R_slice HO182.out; subst eo64))
                                          go_ret
                                          exact ⟨by first | rfl | (simp [errW_none, errW_some] <;> rfl) | (simp [*, errW_none, errW_some] <;> rfl), by repeat (first | (with_reducible first | exact HB.out | apply below_alloc | apply pw_below_drewN | apply below_drew1) | exact HB.out)⟩
                                      · rw [if_neg c57] at H
                                        have c57b0 : (t180 == 5) = false := beq_eq_false_iff_ne.mpr c57
                                        have c57b1 : (t180 != 5) = true := bne_iff_ne.mpr c57
                                        obtain rfl := Option.some.inj H
                                        have q65 : (x109_4 : Int) ≤ ((t138.length : Int) : Int) := of_decide_eq_true (by first | (with_reducible assumption) | assumption)
                                        obtain ⟨i065, hi065, _, hsz65, _⟩ := info_parts info5
                                        have hroom65 : t138.length ≤ co30 := (Kd.R_reads' HO_8.out).2.1
                                        have hC65 : Kd.C (Kd.int .u8) _ Ao30 t138.length t138 := (Kd.R_reads' HO_8.out).2.2
                                        have hcut65 := cut_to (P := Try.prog) 23 5 .i64 Try.underlying23 hi065 Ao30 t138.length co30 x109_4 (of_decide_eq_true (by first | (with_reducible assumption) | assumption)) q65 hroom65
                                        have hr65 := Kd.C_take (m := (x109_4 : Int).toNat) hC65 (by omega)
                                        have hy65 : y174.length = (x109_4 : Int).toNat := (by rw [Ny174.out, List.length_take]; omega)
                                        rw [← Ny174.out] at hr65
                                        rw [← hy65] at hcut65
                                        have HR177 := Aside0.mk hr65
                                        have HC177 := Aside0.mk (show y174.length ≤ co30 from by omega)
                                        clear hr65 hC65 hroom65 hi065 hsz65
                                        have KY65 := Aside0.mk hy65
                                        clear hy65
                                        have KL65 := Aside0.mk (show (x109_4 : Int).toNat ≤ t138.length from by omega)
                                        replace q65 := eq_true q65
                                        go_wp2_with (first | ((with_reducible refine gate_callee (f := 21) rfl ?_); refine goesL_ (some 118) rfl rfl Try.func21 (by kernel_rfl) rfl #[.slice Ao30 y174.length co30, .int .i64 (l1.length : Int)] rfl (by (try simp only [List.map_toArray, List.map_cons, List.map_nil]); first | done | rfl | (simp only [List.length_drop, List.length_take]; rfl)) ?_; (with_reducible refine (wire_GetBytes.calls k4 _ _ y174 (l1.length : Int) t178 t179 t180 _ ?side1 ?side2 A56.out).mono ?_); (case side1 => repeat (first | exact (by repeat (first | (with_reducible exact HR177.out) | (with_reducible refine Kd.C_alloc ?_ _) | (with_reducible refine Kd.C_drewN ?_ _) | (with_reducible refine Kd.C_drew ?_) | exact HR177.out)) | (with_reducible refine Kd.C_alloc ?_ _) | (with_reducible refine Kd.C_drewN ?_ _) | (with_reducible refine Kd.C_drew ?_))); (case side2 => exact HC177.out); rintro e w66 ⟨v181, rfl, ho0, hb⟩; refine ⟨_, rfl, ?_⟩; have n0_ := Aside0.mk (Kd.R_elder' (by (with_reducible repeat (first | apply Kd.R_alloc | apply Kd.R_drewN | apply Kd.R_drew)); exact HO_8.out) (Kd.R_base ho0) hb); have n1_ := Aside0.mk (Kd.R_lower (Kd.R_new' ho0 (Kd.R_lt (by (with_reducible repeat (first | apply Kd.R_alloc | apply Kd.R_drewN | apply Kd.R_drew)); exact HO_8.out))) (below_size (by repeat (first | (with_reducible first | exact HB.out | apply below_alloc | apply pw_below_drewN | apply below_drew1) | exact HB.out)))); have n2_ := Aside0.mk (Kd.C_below (by repeat (first | (with_reducible exact HR177.out) | (with_reducible refine Kd.C_alloc ?_ _) | (with_reducible refine Kd.C_drewN ?_ _) | (with_reducible refine Kd.C_drew ?_) | exact HR177.out)) hb); have n3_ := Aside0.mk (below_step (by repeat (first | (with_reducible first | exact HB.out | apply below_alloc | apply pw_below_drewN | apply below_drew1) | exact HB.out)) hb); clear HO_8; clear HR177; clear HB; have HO_8 := n0_; have HO182 := n1_; have HR177 := n2_; have HB := n3_; clear n0_ n1_ n2_ n3_; (try clear hb); (try clear hb2); (try clear hk); (try clear hi); (try clear ho0)))
                                        go_ret
                                        exact ⟨by first | rfl | (simp [errW_none, errW_some] <;> rfl) | (simp [*, errW_none, errW_some] <;> rfl), by repeat (first | (with_reducible first | exact HB.out | apply below_alloc | apply pw_below_drewN | apply below_drew1) | exact HB.out)⟩
                                    · rw [if_neg c55] at H
                                      exact absurd H (by simp)
                                  · rw [if_neg c54] at H
                                    exact absurd H (by simp)
                                · rw [if_neg c53] at H
                                  have c53b0 : decide (x109_4 < (t138.length : Int)) = false := decide_eq_false c53
                                  clear c53
                                  replace H := Option.bind_eq_some_iff.mp H
                                  obtain ⟨⟨t183, t184, t185⟩, A670, H⟩ := H
                                  replace H : ((decklelaw01_alive.f).bind fun t188 => (if t188 = true then (some (t185 == 13)) else (some false))) = some r := H
                                  have A67 := Aside0.mk A670
                                  clear A670
                                  replace H := Option.bind_eq_some_iff.mp H
                                  obtain ⟨t188, A680, H⟩ := H
                                  replace H : (if t188 = true then (some (t185 == 13)) else (some false)) = some r := H
                                  have A68 := Aside0.mk A680
                                  clear A680
                                  by_cases c69 : t188 = true
                                  · subst c69
                                    have H1 : (some (t185 == 13)) = some r := by rw [if_pos rfl] at H; exact H
                                    clear H
                                    have H := H1
                                    clear H1
                                    obtain rfl := Option.some.inj H
                                    go_wp2_with (first | ((with_reducible refine gate_callee (f := 21) rfl ?_); refine goesL_ (some 135) rfl rfl Try.func21 (by kernel_rfl) rfl #[.slice Ao30 t138.length co30, .int .i64 (wrap64 ((l1.length : Int) - 1))] rfl (by (try simp only [List.map_toArray, List.map_cons, List.map_nil]); first | done | rfl | (simp only [List.length_drop, List.length_take]; rfl)) ?_; (with_reducible refine (wire_GetBytes.calls k4 _ _ t138 (wrap64 ((l1.length : Int) - 1)) t183 t184 t185 _ ?side1 ?side2 A67.out).mono ?_); (case side1 => repeat (first | exact (Kd.R_reads' HO_8.out).2.2 | (with_reducible refine Kd.C_alloc ?_ _) | (with_reducible refine Kd.C_drewN ?_ _) | (with_reducible refine Kd.C_drew ?_))); (case side2 => exact (Kd.R_reads' HO_8.out).2.1); rintro e w70 ⟨v186, rfl, ho0, hb⟩; refine ⟨_, rfl, ?_⟩; have n0_ := Aside0.mk (Kd.R_elder' (by (with_reducible repeat (first | apply Kd.R_alloc | apply Kd.R_drewN | apply Kd.R_drew)); exact HO_8.out) (Kd.R_base ho0) hb); have n1_ := Aside0.mk (Kd.R_lower (Kd.R_new' ho0 (Kd.R_lt (by (with_reducible repeat (first | apply Kd.R_alloc | apply Kd.R_drewN | apply Kd.R_drew)); exact HO_8.out))) (below_size (by repeat (first | (with_reducible first | exact HB.out | apply below_alloc | apply pw_below_drewN | apply below_drew1) | exact HB.out)))); have n2_ := Aside0.mk (below_step (by repeat (first | (with_reducible first | exact HB.out | apply below_alloc | apply pw_below_drewN | apply below_drew1) | exact HB.out)) hb); clear HO_8; clear HB; have HO_8 := n0_; have HO187 := n1_; have HB := n2_; clear n0_ n1_ n2_; (try clear hb); (try clear hb2); (try clear hk); (try clear hi); (try clear ho0)) | ((with_reducible refine gate_callee (f := 8) rfl ?_); refine goesL_ (some 139) rfl rfl Try.func8 (by kernel_rfl) rfl #[] rfl (by (try simp only [List.map_toArray, List.map_cons, List.map_nil]); first | done | rfl | (simp only [List.length_drop, List.length_take]; rfl)) ?_; (with_reducible refine (decklelaw01_alive.calls  true _ A68.out).mono ?_); rintro e w71 ⟨rfl, hb⟩; refine ⟨_, rfl, ?_⟩; have n0_ := Aside0.mk (Kd.R_below (by (with_reducible repeat (first | apply Kd.R_alloc | apply Kd.R_drewN | apply Kd.R_drew)); exact HO_8.out) hb); have n1_ := Aside0.mk (Kd.R_below (by (with_reducible repeat (first | apply Kd.R_alloc | apply Kd.R_drewN | apply Kd.R_drew)); exact HO187.out) hb); have n2_ := Aside0.mk (below_step (by repeat (first | (with_reducible first | exact HB.out | apply below_alloc | apply pw_below_drewN | apply below_drew1) | exact HB.out)) hb); clear HO_8; clear HO187; clear HB; have HO_8 := n0_; have HO187 := n1_; have HB := n2_; clear n0_ n1_ n2_; (try clear hb); (try clear hb2); (try clear hk); (try clear hi)))
                                    go_ret
                                    exact ⟨by first | rfl | (simp [errW_none, errW_some] <;> rfl) | (simp [*, errW_none, errW_some] <;> rfl), by repeat (first | (with_reducible first | exact HB.out | apply below_alloc | apply pw_below_drewN | apply below_drew1) | exact HB.out)⟩
                                  · replace c69 := Bool.eq_false_iff.mpr c69
                                    subst c69
                                    have H1 : (some false) = some r := by rw [if_neg (show ¬ (false = true) by decide)] at H; exact H
                                    clear H
                                    have H := H1
                                    clear H1
                                    obtain rfl := Option.some.inj H
                                    go_wp2_with (first | ((with_reducible refine gate_callee (f := 21) rfl ?_); refine goesL_ (some 135) rfl rfl Try.func21 (by kernel_rfl) rfl #[.slice Ao30 t138.length co30, .int .i64 (wrap64 ((l1.length : Int) - 1))] rfl (by (try simp only [List.map_toArray, List.map_cons, List.map_nil]); first | done | rfl | (simp only [List.length_drop, List.length_take]; rfl)) ?_; (with_reducible refine (wire_GetBytes.calls k4 _ _ t138 (wrap64 ((l1.length : Int) - 1)) t183 t184 t185 _ ?side1 ?side2 A67.out).mono ?_); (case side1 => repeat (first | exact (Kd.R_reads' HO_8.out).2.2 | (with_reducible refine Kd.C_alloc ?_ _) | (with_reducible refine Kd.C_drewN ?_ _) | (with_reducible refine Kd.C_drew ?_))); (case side2 => exact (Kd.R_reads' HO_8.out).2.1); rintro e w72 ⟨v186, rfl, ho0, hb⟩; refine ⟨_, rfl, ?_⟩; have n0_ := Aside0.mk (Kd.R_elder' (by (with_reducible repeat (first | apply Kd.R_alloc | apply Kd.R_drewN | apply Kd.R_drew)); exact HO_8.out) (Kd.R_base ho0) hb); have n1_ := Aside0.mk (Kd.R_lower (Kd.R_new' ho0 (Kd.R_lt (by (with_reducible repeat (first | apply Kd.R_alloc | apply Kd.R_drewN | apply Kd.R_drew)); exact HO_8.out))) (below_size (by repeat (first | (with_reducible first | exact HB.out | apply below_alloc | apply pw_below_drewN | apply below_drew1) | exact HB.out)))); have n2_ := Aside0.mk (below_step (by repeat (first | (with_reducible first | exact HB.out | apply below_alloc | apply pw_below_drewN | apply below_drew1) | exact HB.out)) hb); clear HO_8; clear HB; have HO_8 := n0_; have HO187 := n1_; have HB := n2_; clear n0_ n1_ n2_; (try clear hb); (try clear hb2); (try clear hk); (try clear hi); (try clear ho0)) | ((with_reducible refine gate_callee (f := 8) rfl ?_); refine goesL_ (some 139) rfl rfl Try.func8 (by kernel_rfl) rfl #[] rfl (by (try simp only [List.map_toArray, List.map_cons, List.map_nil]); first | done | rfl | (simp only [List.length_drop, List.length_take]; rfl)) ?_; (with_reducible refine (decklelaw01_alive.calls  false _ A68.out).mono ?_); rintro e w73 ⟨rfl, hb⟩; refine ⟨_, rfl, ?_⟩; have n0_ := Aside0.mk (Kd.R_below (by (with_reducible repeat (first | apply Kd.R_alloc | apply Kd.R_drewN | apply Kd.R_drew)); exact HO_8.out) hb); have n1_ := Aside0.mk (Kd.R_below (by (with_reducible repeat (first | apply Kd.R_alloc | apply Kd.R_drewN | apply Kd.R_drew)); exact HO187.out) hb); have n2_ := Aside0.mk (below_step (by repeat (first | (with_reducible first | exact HB.out | apply below_alloc | apply pw_below_drewN | apply below_drew1) | exact HB.out)) hb); clear HO_8; clear HO187; clear HB; have HO_8 := n0_; have HO187 := n1_; have HB := n2_; clear n0_ n1_ n2_; (try clear hb); (try clear hb2); (try clear hk); (try clear hi)))
                                    go_ret
                                    exact ⟨by first | rfl | (simp [errW_none, errW_some] <;> rfl) | (simp [*, errW_none, errW_some] <;> rfl), by repeat (first | (with_reducible first | exact HB.out | apply below_alloc | apply pw_below_drewN | apply below_drew1) | exact HB.out)⟩
              · rw [if_neg c15] at H
                exact absurd H (by simp)
            · rw [if_neg c14] at H
              exact absurd H (by simp)
          · rw [if_neg c12] at H
            exact absurd H (by simp)
        · rw [if_neg c11] at H
          exact absurd H (by simp)

/-- THE ONE PURE STATEMENT of decklelaw01_WireBack: yours. -/
def decklelaw01_WireBack.Pure : Prop := ∀ (a0 : Int) (l1 : List Int) (l2 : List Int), (Lit.int .i64 a0).wf = true → l1.length ≤ maxLen → l1.length * 1 ≤ 140737488351232 → (∀ x ∈ l1, (Lit.int .u8 x).wf = true) → l2.length ≤ maxLen → l2.length * 1 ≤ 140737488351232 → (∀ x ∈ l2, (Lit.int .u8 x).wf = true) → ∃ k, decklelaw01_WireBack.f k a0 l1 l2 = some true
theorem decklelaw01_WireBack.walk (P : decklelaw01_WireBack.Pure) (a0 : Int) (a1 : Option Addr) (len1 cap1 : Nat) (z1 : List Int) (a2 : Option Addr) (len2 cap2 : Nat) (z2 : List Int) (w : World) (w0 : (Lit.int .i64 a0).wf = true) (w1 : (a1 = none ∧ len1 = 0 ∧ cap1 = 0 ∧ z1 = []) ∨ ∃ x, a1 = some x ∧ len1 ≤ cap1 ∧ cap1 ≤ maxLen ∧ z1.length = cap1 ∧ (∀ i, i < z1.length → w.cell? (x.add i) = some (.int .u8 (z1.getD i 0))) ∧ ∀ n ∈ z1, (Lit.int .u8 n).wf = true) (y1 : len1 * 1 ≤ 140737488351232) (w2 : (a2 = none ∧ len2 = 0 ∧ cap2 = 0 ∧ z2 = []) ∨ ∃ x, a2 = some x ∧ len2 ≤ cap2 ∧ cap2 ≤ maxLen ∧ z2.length = cap2 ∧ (∀ i, i < z2.length → w.cell? (x.add i) = some (.int .u8 (z2.getD i 0))) ∧ ∀ n ∈ z2, (Lit.int .u8 n).wf = true) (y2 : len2 * 1 ≤ 140737488351232) :
    Calls Try.prog 7 #[.int .i64 a0, .slice a1 len1 cap1, .slice a2 len2 cap2] w fun e w' => e = .returned (.bool true) ∧ Below w.heap.size w w' := by
  obtain ⟨l1, rfl, hr1, hm1, hw1, hc1⟩ := ReadsInt.ofRowC w1
  obtain ⟨l2, rfl, hr2, hm2, hw2, hc2⟩ := ReadsInt.ofRowC w2
  obtain ⟨k, h⟩ := P a0 l1 l2 w0 hm1 y1 hw1 hm2 y2 hw2
  refine (decklelaw01_WireBack.calls k a0 _ _ l1 _ _ l2 true w (Kd.C_of_reads (d := (0 : Int)) (h1 := fun _ => rfl) hr1) hc1 (Kd.C_of_reads (d := (0 : Int)) (h1 := fun _ => rfl) hr2) hc2 h).mono ?_
  rintro e w' ⟨rfl, hd⟩
  exact ⟨rfl, hd⟩

end Go.Proofs.Ytkngkjgapgnmbab.PWireBack
