-- WRITTEN by a program of this session's own (wip/gen/mkprint.py), over the kit's print: not printed by print.sh itself
import Derived.Test.YtkngkjgapgnmbabPWireOrderx0
import Derived.Test.YtkngkjgapgnmbabPWireOrderx1
namespace Go.Proofs.Ytkngkjgapgnmbab.PWireOrder
open Go.RowKit Go.Proofs.YtkngkjgapgnmbabW.PrintWords Go.Proofs.YtkngkjgapgnmbabW.PrintLast Go.Proofs.YtkngkjgapgnmbabW.PrintMore
attribute [local go_sem] max2_int min2_int max_two min_two max_three min_three max_four min_four   -- for this text's walks alone
set_option linter.unusedVariables false
set_option linter.unusedSimpArgs false

/-! ### decklelaw01_WireOrder: function 4 -/
def decklelaw01_WireOrder.f (k : Nat) (a0 : Int) (a1 : Int) (a2 : Int) : Option (Bool) := (decklelaw01_alive.f).bind fun t120 => (if t120 = true then ((wire_Size.f k (mn a0 a1)).bind fun t121 => ((wire_Size.f k (mx a0 a1)).bind fun t122 => (if t121 ≤ t122 then ((wire_Zig.f a2).bind fun t123 => ((wire_Zag.f t123).bind fun t124 => (if t124 = a2 then ((wire_Zag.f a0).bind fun t125 => ((wire_Zig.f t125).bind fun t126 => (if t126 = a0 then (some ((decide (a2 < 0)) == ((Int.tmod t123 2) == 1))) else (some false)))) else (some false)))) else (some false)))) else (some false))
theorem decklelaw01_WireOrder.mono : ∀ a0 a1 a2 k, LeO (decklelaw01_WireOrder.f k a0 a1 a2) (decklelaw01_WireOrder.f (k + 1) a0 a1 a2) := by
  intro a0 a1 a2 k
  unfold decklelaw01_WireOrder.f
  repeat' first
      | (with_reducible exact wire_Size.mono _ _)
      | (with_reducible exact LeO.refl _)
      | (with_reducible exact LeO.none _)
      | (with_reducible refine LeO.ite ?_ ?_)
      | (with_reducible refine LeO.bind ?_ (fun _ => ?_))
      | exact wire_Size.mono _ _
      | exact LeO.none _
      | refine LeO.ite ?_ ?_
      | refine LeO.bind ?_ (fun _ => ?_)
set_option maxHeartbeats 8000000 in
set_option maxRecDepth 100000 in
theorem decklelaw01_WireOrder.calls (k : Nat) (a0 : Int) (a1 : Int) (a2 : Int) (r : Bool) (w : World) (h : decklelaw01_WireOrder.f k a0 a1 a2 = some r) :
    Calls Try.prog 4 #[.int .u64 a0, .int .u64 a1, .int .i64 a2] w fun e w' => e = .returned (.bool r) ∧ Below w.heap.size w w' := by
  have HB := Aside0.mk (Below.refl w.heap.size w)
  have H : ((decklelaw01_alive.f).bind fun t120 => (if t120 = true then ((wire_Size.f k (mn a0 a1)).bind fun t121 => ((wire_Size.f k (mx a0 a1)).bind fun t122 => (if t121 ≤ t122 then ((wire_Zig.f a2).bind fun t123 => ((wire_Zag.f t123).bind fun t124 => (if t124 = a2 then ((wire_Zag.f a0).bind fun t125 => ((wire_Zig.f t125).bind fun t126 => (if t126 = a0 then (some ((decide (a2 < 0)) == ((Int.tmod t123 2) == 1))) else (some false)))) else (some false)))) else (some false)))) else (some false))) = some r := h
  clear h
  replace H := Option.bind_eq_some_iff.mp H
  obtain ⟨t120, A40, H⟩ := H
  replace H : (if t120 = true then ((wire_Size.f k (mn a0 a1)).bind fun t121 => ((wire_Size.f k (mx a0 a1)).bind fun t122 => (if t121 ≤ t122 then ((wire_Zig.f a2).bind fun t123 => ((wire_Zag.f t123).bind fun t124 => (if t124 = a2 then ((wire_Zag.f a0).bind fun t125 => ((wire_Zig.f t125).bind fun t126 => (if t126 = a0 then (some ((decide (a2 < 0)) == ((Int.tmod t123 2) == 1))) else (some false)))) else (some false)))) else (some false)))) else (some false)) = some r := H
  have A4 := Aside0.mk A40
  clear A40
  by_cases c5 : t120 = true
  · subst c5
    have H1 : ((wire_Size.f k (mn a0 a1)).bind fun t121 => ((wire_Size.f k (mx a0 a1)).bind fun t122 => (if t121 ≤ t122 then ((wire_Zig.f a2).bind fun t123 => ((wire_Zag.f t123).bind fun t124 => (if t124 = a2 then ((wire_Zag.f a0).bind fun t125 => ((wire_Zig.f t125).bind fun t126 => (if t126 = a0 then (some ((decide (a2 < 0)) == ((Int.tmod t123 2) == 1))) else (some false)))) else (some false)))) else (some false)))) = some r := by rw [if_pos rfl] at H; exact H
    clear H
    have H := H1
    clear H1
    obtain ⟨ji6, hji6⟩ : ∃ j_ : Int, (mn a0 a1) = j_ := ⟨_, rfl⟩
    replace H : ((wire_Size.f k (ji6)).bind fun t121 => ((wire_Size.f k (mx a0 a1)).bind fun t122 => (if t121 ≤ t122 then ((wire_Zig.f a2).bind fun t123 => ((wire_Zag.f t123).bind fun t124 => (if t124 = a2 then ((wire_Zag.f a0).bind fun t125 => ((wire_Zig.f t125).bind fun t126 => (if t126 = a0 then (some ((decide (a2 < 0)) == ((Int.tmod t123 2) == 1))) else (some false)))) else (some false)))) else (some false)))) = some r := by first | (rw [hji6] at H; exact H) | (simp only [hji6] at H ⊢; exact H)
    (try rw [hji6] at A4)
    have hji6_ : (if a1 < a0 then a1 else a0) = ji6 := hji6
    replace H := Option.bind_eq_some_iff.mp H
    obtain ⟨t121, A70, H⟩ := H
    replace H : ((wire_Size.f k (mx a0 a1)).bind fun t122 => (if t121 ≤ t122 then ((wire_Zig.f a2).bind fun t123 => ((wire_Zag.f t123).bind fun t124 => (if t124 = a2 then ((wire_Zag.f a0).bind fun t125 => ((wire_Zig.f t125).bind fun t126 => (if t126 = a0 then (some ((decide (a2 < 0)) == ((Int.tmod t123 2) == 1))) else (some false)))) else (some false)))) else (some false))) = some r := H
    have A7 := Aside0.mk A70
    clear A70
    obtain ⟨ji8, hji8⟩ : ∃ j_ : Int, (mx a0 a1) = j_ := ⟨_, rfl⟩
    replace H : ((wire_Size.f k (ji8)).bind fun t122 => (if t121 ≤ t122 then ((wire_Zig.f a2).bind fun t123 => ((wire_Zag.f t123).bind fun t124 => (if t124 = a2 then ((wire_Zag.f a0).bind fun t125 => ((wire_Zig.f t125).bind fun t126 => (if t126 = a0 then (some ((decide (a2 < 0)) == ((Int.tmod t123 2) == 1))) else (some false)))) else (some false)))) else (some false))) = some r := by first | (rw [hji8] at H; exact H) | (simp only [hji8] at H ⊢; exact H)
    (try rw [hji8] at A4)
    (try rw [hji8] at A7)
    have hji8_ : (if a0 < a1 then a1 else a0) = ji8 := hji8
    replace H := Option.bind_eq_some_iff.mp H
    obtain ⟨t122, A90, H⟩ := H
    replace H : (if t121 ≤ t122 then ((wire_Zig.f a2).bind fun t123 => ((wire_Zag.f t123).bind fun t124 => (if t124 = a2 then ((wire_Zag.f a0).bind fun t125 => ((wire_Zig.f t125).bind fun t126 => (if t126 = a0 then (some ((decide (a2 < 0)) == ((Int.tmod t123 2) == 1))) else (some false)))) else (some false)))) else (some false)) = some r := H
    have A9 := Aside0.mk A90
    clear A90
    by_cases c10 : t121 ≤ t122
    · rw [if_pos c10] at H
      have c10b0 : decide (t121 ≤ t122) = true := decide_eq_true c10
      clear c10
      replace H := Option.bind_eq_some_iff.mp H
      obtain ⟨t123, A110, H⟩ := H
      replace H : ((wire_Zag.f t123).bind fun t124 => (if t124 = a2 then ((wire_Zag.f a0).bind fun t125 => ((wire_Zig.f t125).bind fun t126 => (if t126 = a0 then (some ((decide (a2 < 0)) == ((Int.tmod t123 2) == 1))) else (some false)))) else (some false))) = some r := H
      have A11 := Aside0.mk A110
      clear A110
      replace H := Option.bind_eq_some_iff.mp H
      obtain ⟨t124, A120, H⟩ := H
      replace H : (if t124 = a2 then ((wire_Zag.f a0).bind fun t125 => ((wire_Zig.f t125).bind fun t126 => (if t126 = a0 then (some ((decide (a2 < 0)) == ((Int.tmod t123 2) == 1))) else (some false)))) else (some false)) = some r := H
      have A12 := Aside0.mk A120
      clear A120
      by_cases c13 : t124 = a2
      · rw [if_pos c13] at H
        have c13b0 : (t124 == a2) = true := beq_iff_eq.mpr c13
        have c13b1 : (t124 != a2) = false := bne_eq_false_iff_eq.mpr c13
        clear c13
        replace H := Option.bind_eq_some_iff.mp H
        obtain ⟨t125, A140, H⟩ := H
        replace H : ((wire_Zig.f t125).bind fun t126 => (if t126 = a0 then (some ((decide (a2 < 0)) == ((Int.tmod t123 2) == 1))) else (some false))) = some r := H
        have A14 := Aside0.mk A140
        clear A140
        replace H := Option.bind_eq_some_iff.mp H
        obtain ⟨t126, A150, H⟩ := H
        replace H : (if t126 = a0 then (some ((decide (a2 < 0)) == ((Int.tmod t123 2) == 1))) else (some false)) = some r := H
        have A15 := Aside0.mk A150
        clear A150
        by_cases c16 : t126 = a0
        · rw [if_pos c16] at H
          have c16b0 : (t126 == a0) = true := beq_iff_eq.mpr c16
          have c16b1 : (t126 != a0) = false := bne_eq_false_iff_eq.mpr c16
          clear c16
          obtain rfl := Option.some.inj H
          go_enter Try.func4, Try.ntmps4
          go_wp2_with (first | ((with_reducible refine gate_callee (f := 8) rfl ?_); refine goesL_ (some 7) rfl rfl Try.func8 (by kernel_rfl) rfl #[] rfl (by (try simp only [List.map_toArray, List.map_cons, List.map_nil]); first | done | rfl | (simp only [List.length_drop, List.length_take]; rfl)) ?_; (with_reducible refine (decklelaw01_alive.calls  true _ A4.out).mono ?_); rintro e w17 ⟨rfl, hb⟩; refine ⟨_, rfl, ?_⟩; have n0_ := Aside0.mk (below_step (by repeat (first | (with_reducible first | exact HB.out | apply below_alloc | apply pw_below_drewN | apply below_drew1) | exact HB.out)) hb); clear HB; have HB := n0_; clear n0_; (try clear hb); (try clear hb2); (try clear hk); (try clear hi)) | (go_at_call 11; (with_reducible refine (wire_Size.calls k ji6 t121 _ A7.out).mono ?_); rintro e w18 ⟨rfl, hb⟩; have n0_ := Aside0.mk (below_step (by repeat (first | (with_reducible first | exact HB.out | apply below_alloc | apply pw_below_drewN | apply below_drew1) | exact HB.out)) hb); clear HB; have HB := n0_; clear n0_; (try clear hb); (try clear hb2); (try clear hk); (try clear hi)) | (go_at_call 11; (with_reducible refine (wire_Size.calls k ji8 t122 _ A9.out).mono ?_); rintro e w19 ⟨rfl, hb⟩; have n0_ := Aside0.mk (below_step (by repeat (first | (with_reducible first | exact HB.out | apply below_alloc | apply pw_below_drewN | apply below_drew1) | exact HB.out)) hb); clear HB; have HB := n0_; clear n0_; (try clear hb); (try clear hb2); (try clear hk); (try clear hi)) | (go_at_call 16; (with_reducible refine (wire_Zig.calls a2 t123 _ A11.out).mono ?_); rintro e w' ⟨rfl, ⟨nd, rfl⟩⟩) | (go_at_call 18; (with_reducible refine (wire_Zag.calls t123 t124 _ A12.out).mono ?_); rintro e w' ⟨rfl, ⟨nd, rfl⟩⟩) | (go_at_call 18; (with_reducible refine (wire_Zag.calls a0 t125 _ A14.out).mono ?_); rintro e w' ⟨rfl, ⟨nd, rfl⟩⟩) | (go_at_call 16; (with_reducible refine (wire_Zig.calls t125 t126 _ A15.out).mono ?_); rintro e w' ⟨rfl, ⟨nd, rfl⟩⟩))
          go_ret
          exact ⟨by first | rfl | (simp [errW_none, errW_some] <;> rfl) | (simp only [← hji6, ← hji8]; first | rfl | (simp [errW_none, errW_some] <;> rfl)) | (simp [*, errW_none, errW_some] <;> rfl), by repeat (first | (with_reducible first | exact HB.out | apply below_alloc | apply pw_below_drewN | apply below_drew1) | exact HB.out)⟩
        · rw [if_neg c16] at H
          have c16b0 : (t126 == a0) = false := beq_eq_false_iff_ne.mpr c16
          have c16b1 : (t126 != a0) = true := bne_iff_ne.mpr c16
          obtain rfl := Option.some.inj H
          go_enter Try.func4, Try.ntmps4
          go_wp2_with (first | ((with_reducible refine gate_callee (f := 8) rfl ?_); refine goesL_ (some 7) rfl rfl Try.func8 (by kernel_rfl) rfl #[] rfl (by (try simp only [List.map_toArray, List.map_cons, List.map_nil]); first | done | rfl | (simp only [List.length_drop, List.length_take]; rfl)) ?_; (with_reducible refine (decklelaw01_alive.calls  true _ A4.out).mono ?_); rintro e w20 ⟨rfl, hb⟩; refine ⟨_, rfl, ?_⟩; have n0_ := Aside0.mk (below_step (by repeat (first | (with_reducible first | exact HB.out | apply below_alloc | apply pw_below_drewN | apply below_drew1) | exact HB.out)) hb); clear HB; have HB := n0_; clear n0_; (try clear hb); (try clear hb2); (try clear hk); (try clear hi)) | (go_at_call 11; (with_reducible refine (wire_Size.calls k ji6 t121 _ A7.out).mono ?_); rintro e w21 ⟨rfl, hb⟩; have n0_ := Aside0.mk (below_step (by repeat (first | (with_reducible first | exact HB.out | apply below_alloc | apply pw_below_drewN | apply below_drew1) | exact HB.out)) hb); clear HB; have HB := n0_; clear n0_; (try clear hb); (try clear hb2); (try clear hk); (try clear hi)) | (go_at_call 11; (with_reducible refine (wire_Size.calls k ji8 t122 _ A9.out).mono ?_); rintro e w22 ⟨rfl, hb⟩; have n0_ := Aside0.mk (below_step (by repeat (first | (with_reducible first | exact HB.out | apply below_alloc | apply pw_below_drewN | apply below_drew1) | exact HB.out)) hb); clear HB; have HB := n0_; clear n0_; (try clear hb); (try clear hb2); (try clear hk); (try clear hi)) | (go_at_call 16; (with_reducible refine (wire_Zig.calls a2 t123 _ A11.out).mono ?_); rintro e w' ⟨rfl, ⟨nd, rfl⟩⟩) | (go_at_call 18; (with_reducible refine (wire_Zag.calls t123 t124 _ A12.out).mono ?_); rintro e w' ⟨rfl, ⟨nd, rfl⟩⟩) | (go_at_call 18; (with_reducible refine (wire_Zag.calls a0 t125 _ A14.out).mono ?_); rintro e w' ⟨rfl, ⟨nd, rfl⟩⟩) | (go_at_call 16; (with_reducible refine (wire_Zig.calls t125 t126 _ A15.out).mono ?_); rintro e w' ⟨rfl, ⟨nd, rfl⟩⟩))
          go_ret
          exact ⟨by first | rfl | (simp [errW_none, errW_some] <;> rfl) | (simp only [← hji6, ← hji8]; first | rfl | (simp [errW_none, errW_some] <;> rfl)) | (simp [*, errW_none, errW_some] <;> rfl), by repeat (first | (with_reducible first | exact HB.out | apply below_alloc | apply pw_below_drewN | apply below_drew1) | exact HB.out)⟩
      · rw [if_neg c13] at H
        have c13b0 : (t124 == a2) = false := beq_eq_false_iff_ne.mpr c13
        have c13b1 : (t124 != a2) = true := bne_iff_ne.mpr c13
        obtain rfl := Option.some.inj H
        go_enter Try.func4, Try.ntmps4
        go_wp2_with (first | ((with_reducible refine gate_callee (f := 8) rfl ?_); refine goesL_ (some 7) rfl rfl Try.func8 (by kernel_rfl) rfl #[] rfl (by (try simp only [List.map_toArray, List.map_cons, List.map_nil]); first | done | rfl | (simp only [List.length_drop, List.length_take]; rfl)) ?_; (with_reducible refine (decklelaw01_alive.calls  true _ A4.out).mono ?_); rintro e w23 ⟨rfl, hb⟩; refine ⟨_, rfl, ?_⟩; have n0_ := Aside0.mk (below_step (by repeat (first | (with_reducible first | exact HB.out | apply below_alloc | apply pw_below_drewN | apply below_drew1) | exact HB.out)) hb); clear HB; have HB := n0_; clear n0_; (try clear hb); (try clear hb2); (try clear hk); (try clear hi)) | (go_at_call 11; (with_reducible refine (wire_Size.calls k ji6 t121 _ A7.out).mono ?_); rintro e w24 ⟨rfl, hb⟩; have n0_ := Aside0.mk (below_step (by repeat (first | (with_reducible first | exact HB.out | apply below_alloc | apply pw_below_drewN | apply below_drew1) | exact HB.out)) hb); clear HB; have HB := n0_; clear n0_; (try clear hb); (try clear hb2); (try clear hk); (try clear hi)) | (go_at_call 11; (with_reducible refine (wire_Size.calls k ji8 t122 _ A9.out).mono ?_); rintro e w25 ⟨rfl, hb⟩; have n0_ := Aside0.mk (below_step (by repeat (first | (with_reducible first | exact HB.out | apply below_alloc | apply pw_below_drewN | apply below_drew1) | exact HB.out)) hb); clear HB; have HB := n0_; clear n0_; (try clear hb); (try clear hb2); (try clear hk); (try clear hi)) | (go_at_call 16; (with_reducible refine (wire_Zig.calls a2 t123 _ A11.out).mono ?_); rintro e w' ⟨rfl, ⟨nd, rfl⟩⟩) | (go_at_call 18; (with_reducible refine (wire_Zag.calls t123 t124 _ A12.out).mono ?_); rintro e w' ⟨rfl, ⟨nd, rfl⟩⟩))
        go_ret
        exact ⟨by first | rfl | (simp [errW_none, errW_some] <;> rfl) | (simp only [← hji6, ← hji8]; first | rfl | (simp [errW_none, errW_some] <;> rfl)) | (simp [*, errW_none, errW_some] <;> rfl), by repeat (first | (with_reducible first | exact HB.out | apply below_alloc | apply pw_below_drewN | apply below_drew1) | exact HB.out)⟩
    · rw [if_neg c10] at H
      have c10b0 : decide (t121 ≤ t122) = false := decide_eq_false c10
      clear c10
      obtain rfl := Option.some.inj H
      go_enter Try.func4, Try.ntmps4
      go_wp2_with (first | ((with_reducible refine gate_callee (f := 8) rfl ?_); refine goesL_ (some 7) rfl rfl Try.func8 (by kernel_rfl) rfl #[] rfl (by (try simp only [List.map_toArray, List.map_cons, List.map_nil]); first | done | rfl | (simp only [List.length_drop, List.length_take]; rfl)) ?_; (with_reducible refine (decklelaw01_alive.calls  true _ A4.out).mono ?_); rintro e w26 ⟨rfl, hb⟩; refine ⟨_, rfl, ?_⟩; have n0_ := Aside0.mk (below_step (by repeat (first | (with_reducible first | exact HB.out | apply below_alloc | apply pw_below_drewN | apply below_drew1) | exact HB.out)) hb); clear HB; have HB := n0_; clear n0_; (try clear hb); (try clear hb2); (try clear hk); (try clear hi)) | (go_at_call 11; (with_reducible refine (wire_Size.calls k ji6 t121 _ A7.out).mono ?_); rintro e w27 ⟨rfl, hb⟩; have n0_ := Aside0.mk (below_step (by repeat (first | (with_reducible first | exact HB.out | apply below_alloc | apply pw_below_drewN | apply below_drew1) | exact HB.out)) hb); clear HB; have HB := n0_; clear n0_; (try clear hb); (try clear hb2); (try clear hk); (try clear hi)) | (go_at_call 11; (with_reducible refine (wire_Size.calls k ji8 t122 _ A9.out).mono ?_); rintro e w28 ⟨rfl, hb⟩; have n0_ := Aside0.mk (below_step (by repeat (first | (with_reducible first | exact HB.out | apply below_alloc | apply pw_below_drewN | apply below_drew1) | exact HB.out)) hb); clear HB; have HB := n0_; clear n0_; (try clear hb); (try clear hb2); (try clear hk); (try clear hi)))
      go_ret
      exact ⟨by first | rfl | (simp [errW_none, errW_some] <;> rfl) | (simp only [← hji6, ← hji8]; first | rfl | (simp [errW_none, errW_some] <;> rfl)) | (simp [*, errW_none, errW_some] <;> rfl), by repeat (first | (with_reducible first | exact HB.out | apply below_alloc | apply pw_below_drewN | apply below_drew1) | exact HB.out)⟩
  · replace c5 := Bool.eq_false_iff.mpr c5
    subst c5
    have H1 : (some false) = some r := by rw [if_neg (show ¬ (false = true) by decide)] at H; exact H
    clear H
    have H := H1
    clear H1
    obtain rfl := Option.some.inj H
    go_enter Try.func4, Try.ntmps4
    go_wp2_with (first | ((with_reducible refine gate_callee (f := 8) rfl ?_); refine goesL_ (some 7) rfl rfl Try.func8 (by kernel_rfl) rfl #[] rfl (by (try simp only [List.map_toArray, List.map_cons, List.map_nil]); first | done | rfl | (simp only [List.length_drop, List.length_take]; rfl)) ?_; (with_reducible refine (decklelaw01_alive.calls  false _ A4.out).mono ?_); rintro e w29 ⟨rfl, hb⟩; refine ⟨_, rfl, ?_⟩; have n0_ := Aside0.mk (below_step (by repeat (first | (with_reducible first | exact HB.out | apply below_alloc | apply pw_below_drewN | apply below_drew1) | exact HB.out)) hb); clear HB; have HB := n0_; clear n0_; (try clear hb); (try clear hb2); (try clear hk); (try clear hi)))
    go_ret
    exact ⟨by first | rfl | (simp [errW_none, errW_some] <;> rfl) | (simp [*, errW_none, errW_some] <;> rfl), by repeat (first | (with_reducible first | exact HB.out | apply below_alloc | apply pw_below_drewN | apply below_drew1) | exact HB.out)⟩

/-- THE ONE PURE STATEMENT of decklelaw01_WireOrder: yours. -/
def decklelaw01_WireOrder.Pure : Prop := ∀ (a0 : Int) (a1 : Int) (a2 : Int), (Lit.int .u64 a0).wf = true → (Lit.int .u64 a1).wf = true → (Lit.int .i64 a2).wf = true → ∃ k, decklelaw01_WireOrder.f k a0 a1 a2 = some true
theorem decklelaw01_WireOrder.walk (P : decklelaw01_WireOrder.Pure) (a0 : Int) (a1 : Int) (a2 : Int) (w : World) (w0 : (Lit.int .u64 a0).wf = true) (w1 : (Lit.int .u64 a1).wf = true) (w2 : (Lit.int .i64 a2).wf = true) :
    Calls Try.prog 4 #[.int .u64 a0, .int .u64 a1, .int .i64 a2] w fun e w' => e = .returned (.bool true) ∧ Below w.heap.size w w' := by
  obtain ⟨k, h⟩ := P a0 a1 a2 w0 w1 w2
  refine (decklelaw01_WireOrder.calls k a0 a1 a2 true w h).mono ?_
  rintro e w' ⟨rfl, hd⟩
  exact ⟨rfl, hd⟩

end Go.Proofs.Ytkngkjgapgnmbab.PWireOrder
