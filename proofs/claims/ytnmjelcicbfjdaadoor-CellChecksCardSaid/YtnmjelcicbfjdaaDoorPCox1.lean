-- WRITTEN by a program of this session's own (wip/gen/mkprint.py), over the kit's print: not printed by print.sh itself
import Derived.Test.YtnmjelcicbfjdaaDoorPCox0
namespace Go.Proofs.YtnmjelcicbfjdaaDoor.PCo
open Go.RowKit Go.Proofs.YtnmjelcicbfjdaaDoorW.PrintWords Go.Proofs.YtnmjelcicbfjdaaDoorW.PrintLast Go.Proofs.YtnmjelcicbfjdaaDoorW.PrintMore
attribute [local go_sem] max2_int min2_int max_two min_two max_three min_three max_four min_four   -- for this text's walks alone
set_option linter.unusedVariables false
set_option linter.unusedSimpArgs false

/-! ### deckleref04_UTF8: function 52 -/
mutual
def deckleref04_UTF8.l0 : Nat → ByteArray → Int → Option (Bool)
  | 0, _, _ => none
  | k + 1, x0, x3 => if x3 < (x0.size : Int) then (if 0 ≤ x3 then (if (wrap64 (bt x0 x3)) < 128 then (deckleref04_UTF8.l0 k x0 (wrap64 (x3 + 1))) else (if (wrap64 (bt x0 x3)) ≥ 194 then (deckleref04_UTF8.j1 k x0 x3 (wrap64 (bt x0 x3)) (decide ((wrap64 (bt x0 x3)) < 224))) else (deckleref04_UTF8.j1 k x0 x3 (wrap64 (bt x0 x3)) false))) else (none)) else (some true)
def deckleref04_UTF8.j3 : Nat → ByteArray → Int → Int → Int → Int → Option (Bool)
  | 0, _, _, _, _, _ => none
  | k + 1, x0, x3, x4, x5, x6 => deckleref04_UTF8.l1 k x0 x3 x4 x5 x6 1
def deckleref04_UTF8.l1 : Nat → ByteArray → Int → Int → Int → Int → Int → Option (Bool)
  | 0, _, _, _, _, _, _ => none
  | k + 1, x0, x3, x4, x5, x6, x7 => if x7 ≤ x5 then (if (wrap64 (x3 + x7)) ≥ (x0.size : Int) then (some false) else (if 0 ≤ (wrap64 (x3 + x7)) then (if (wrap64 (x3 + x7)) < (x0.size : Int) then (if ((Int.tdiv (bt x0 (wrap64 (x3 + x7))) 64) % 256) = 2 then (deckleref04_UTF8.l1 k x0 x3 (wrap64 ((wrap64 (64 * x4)) + (wrap64 (Int.tmod (bt x0 (wrap64 (x3 + x7))) 64)))) x5 x6 (wrap64 (x7 + 1))) else (some false)) else (none)) else (none))) else (if x4 < x6 then (some false) else (if x4 > 1114111 then (some false) else (if x4 ≥ 55296 then (if x4 < 57344 then (some false) else (deckleref04_UTF8.l0 k x0 (wrap64 (x3 + (wrap64 (x5 + 1)))))) else (deckleref04_UTF8.l0 k x0 (wrap64 (x3 + (wrap64 (x5 + 1))))))))
def deckleref04_UTF8.j1 : Nat → ByteArray → Int → Int → Bool → Option (Bool)
  | 0, _, _, _, _ => none
  | k + 1, x0, x3, x4, x21 => if x21 = true then (deckleref04_UTF8.j3 k x0 x3 (Int.tmod x4 32) 1 128) else (if x4 ≥ 224 then (deckleref04_UTF8.j2 k x0 x3 x4 (decide (x4 < 240))) else (deckleref04_UTF8.j2 k x0 x3 x4 false))
def deckleref04_UTF8.j2 : Nat → ByteArray → Int → Int → Bool → Option (Bool)
  | 0, _, _, _, _ => none
  | k + 1, x0, x3, x4, x30 => if x30 = true then (deckleref04_UTF8.j3 k x0 x3 (Int.tmod x4 16) 2 2048) else (if x4 ≥ 240 then (if x4 < 245 then (deckleref04_UTF8.j3 k x0 x3 (Int.tmod x4 8) 3 65536) else (some false)) else (some false))
end
def deckleref04_UTF8.f (k : Nat) (a0 : ByteArray) : Option (Bool) := deckleref04_UTF8.l0 k a0 0
theorem deckleref04_UTF8.mono_l : ∀ k, (∀ y0 y1, LeO (deckleref04_UTF8.l0 k y0 y1) (deckleref04_UTF8.l0 (k + 1) y0 y1)) ∧ (∀ y0 y1 y2 y3 y4, LeO (deckleref04_UTF8.j3 k y0 y1 y2 y3 y4) (deckleref04_UTF8.j3 (k + 1) y0 y1 y2 y3 y4)) ∧ (∀ y0 y1 y2 y3 y4 y5, LeO (deckleref04_UTF8.l1 k y0 y1 y2 y3 y4 y5) (deckleref04_UTF8.l1 (k + 1) y0 y1 y2 y3 y4 y5)) ∧ (∀ y0 y1 y2 y3, LeO (deckleref04_UTF8.j1 k y0 y1 y2 y3) (deckleref04_UTF8.j1 (k + 1) y0 y1 y2 y3)) ∧ (∀ y0 y1 y2 y3, LeO (deckleref04_UTF8.j2 k y0 y1 y2 y3) (deckleref04_UTF8.j2 (k + 1) y0 y1 y2 y3))
  | 0 => ⟨fun _ _ r h => by simp [deckleref04_UTF8.l0] at h, fun _ _ _ _ _ r h => by simp [deckleref04_UTF8.j3] at h, fun _ _ _ _ _ _ r h => by simp [deckleref04_UTF8.l1] at h, fun _ _ _ _ r h => by simp [deckleref04_UTF8.j1] at h, fun _ _ _ _ r h => by simp [deckleref04_UTF8.j2] at h⟩
  | k + 1 => by
    obtain ⟨ih0, ih1, ih2, ih3, ih4⟩ := deckleref04_UTF8.mono_l k
    refine ⟨?_, ?_, ?_, ?_, ?_⟩
    · intro y0 y1
      unfold deckleref04_UTF8.l0
      repeat' first
      | (with_reducible exact ih0 _ _)
      | (with_reducible exact ih1 _ _ _ _ _)
      | (with_reducible exact ih2 _ _ _ _ _ _)
      | (with_reducible exact ih3 _ _ _ _)
      | (with_reducible exact ih4 _ _ _ _)
      | (with_reducible exact LeO.refl _)
      | (with_reducible exact LeO.none _)
      | (with_reducible refine LeO.ite ?_ ?_)
      | (with_reducible refine LeO.bind ?_ (fun _ => ?_))
      | exact ih0 _ _
      | exact ih1 _ _ _ _ _
      | exact ih2 _ _ _ _ _ _
      | exact ih3 _ _ _ _
      | exact ih4 _ _ _ _
      | exact LeO.none _
      | refine LeO.ite ?_ ?_
      | refine LeO.bind ?_ (fun _ => ?_)
    · intro y0 y1 y2 y3 y4
      unfold deckleref04_UTF8.j3
      repeat' first
      | (with_reducible exact ih0 _ _)
      | (with_reducible exact ih1 _ _ _ _ _)
      | (with_reducible exact ih2 _ _ _ _ _ _)
      | (with_reducible exact ih3 _ _ _ _)
      | (with_reducible exact ih4 _ _ _ _)
      | (with_reducible exact LeO.refl _)
      | (with_reducible exact LeO.none _)
      | (with_reducible refine LeO.ite ?_ ?_)
      | (with_reducible refine LeO.bind ?_ (fun _ => ?_))
      | exact ih0 _ _
      | exact ih1 _ _ _ _ _
      | exact ih2 _ _ _ _ _ _
      | exact ih3 _ _ _ _
      | exact ih4 _ _ _ _
      | exact LeO.none _
      | refine LeO.ite ?_ ?_
      | refine LeO.bind ?_ (fun _ => ?_)
    · intro y0 y1 y2 y3 y4 y5
      unfold deckleref04_UTF8.l1
      repeat' first
      | (with_reducible exact ih0 _ _)
      | (with_reducible exact ih1 _ _ _ _ _)
      | (with_reducible exact ih2 _ _ _ _ _ _)
      | (with_reducible exact ih3 _ _ _ _)
      | (with_reducible exact ih4 _ _ _ _)
      | (with_reducible exact LeO.refl _)
      | (with_reducible exact LeO.none _)
      | (with_reducible refine LeO.ite ?_ ?_)
      | (with_reducible refine LeO.bind ?_ (fun _ => ?_))
      | exact ih0 _ _
      | exact ih1 _ _ _ _ _
      | exact ih2 _ _ _ _ _ _
      | exact ih3 _ _ _ _
      | exact ih4 _ _ _ _
      | exact LeO.none _
      | refine LeO.ite ?_ ?_
      | refine LeO.bind ?_ (fun _ => ?_)
    · intro y0 y1 y2 y3
      unfold deckleref04_UTF8.j1
      repeat' first
      | (with_reducible exact ih0 _ _)
      | (with_reducible exact ih1 _ _ _ _ _)
      | (with_reducible exact ih2 _ _ _ _ _ _)
      | (with_reducible exact ih3 _ _ _ _)
      | (with_reducible exact ih4 _ _ _ _)
      | (with_reducible exact LeO.refl _)
      | (with_reducible exact LeO.none _)
      | (with_reducible refine LeO.ite ?_ ?_)
      | (with_reducible refine LeO.bind ?_ (fun _ => ?_))
      | exact ih0 _ _
      | exact ih1 _ _ _ _ _
      | exact ih2 _ _ _ _ _ _
      | exact ih3 _ _ _ _
      | exact ih4 _ _ _ _
      | exact LeO.none _
      | refine LeO.ite ?_ ?_
      | refine LeO.bind ?_ (fun _ => ?_)
    · intro y0 y1 y2 y3
      unfold deckleref04_UTF8.j2
      repeat' first
      | (with_reducible exact ih0 _ _)
      | (with_reducible exact ih1 _ _ _ _ _)
      | (with_reducible exact ih2 _ _ _ _ _ _)
      | (with_reducible exact ih3 _ _ _ _)
      | (with_reducible exact ih4 _ _ _ _)
      | (with_reducible exact LeO.refl _)
      | (with_reducible exact LeO.none _)
      | (with_reducible refine LeO.ite ?_ ?_)
      | (with_reducible refine LeO.bind ?_ (fun _ => ?_))
      | exact ih0 _ _
      | exact ih1 _ _ _ _ _
      | exact ih2 _ _ _ _ _ _
      | exact ih3 _ _ _ _
      | exact ih4 _ _ _ _
      | exact LeO.none _
      | refine LeO.ite ?_ ?_
      | refine LeO.bind ?_ (fun _ => ?_)
theorem deckleref04_UTF8.mono : ∀ a0 k, LeO (deckleref04_UTF8.f k a0) (deckleref04_UTF8.f (k + 1) a0) := by
  intro a0 k
  obtain ⟨ih0, ih1, ih2, ih3, ih4⟩ := deckleref04_UTF8.mono_l k
  unfold deckleref04_UTF8.f
  repeat' first
      | (with_reducible exact ih0 _ _)
      | (with_reducible exact ih1 _ _ _ _ _)
      | (with_reducible exact ih2 _ _ _ _ _ _)
      | (with_reducible exact ih3 _ _ _ _)
      | (with_reducible exact ih4 _ _ _ _)
      | (with_reducible exact LeO.refl _)
      | (with_reducible exact LeO.none _)
      | (with_reducible refine LeO.ite ?_ ?_)
      | (with_reducible refine LeO.bind ?_ (fun _ => ?_))
      | exact ih0 _ _
      | exact ih1 _ _ _ _ _
      | exact ih2 _ _ _ _ _ _
      | exact ih3 _ _ _ _
      | exact ih4 _ _ _ _
      | exact LeO.none _
      | refine LeO.ite ?_ ?_
      | refine LeO.bind ?_ (fun _ => ?_)
set_option maxHeartbeats 8000000 in
set_option maxRecDepth 100000 in
theorem deckleref04_UTF8.calls (k : Nat) (a0 : ByteArray) (r : Bool) (w : World) (h : deckleref04_UTF8.f k a0 = some r) :
    Calls Tryd.prog 52 #[.string a0] w fun e w' => e = .returned (.bool r) ∧ Drawn0 w w' := by
  have H : (deckleref04_UTF8.l0 k a0 0) = some r := h
  clear h
  have H' := Aside0.mk H
  clear H
  go_enter Tryd.func52, Tryd.ntmps52
  go_wp2
  go_loopg [3] k (fun kq v3 w' => ∃ (x3_1 : Int), v3 = .int .i64 x3_1 ∧ Aside0 (deckleref04_UTF8.l0 kq a0 x3_1 = some r) ∧ Aside0 (kq ≤ k) ∧ Drawn0 w w')
  case atStart => exact ⟨(0), (by first | rfl | (simp; done) | (simp [*]; done)), H', ⟨Nat.le_refl _⟩, by repeat (first | exact Drawn0.refl _ | apply Drawn0.step)⟩
  case round =>
    clear H'
    obtain ⟨x3_1, rfl, HA, HK1, ⟨m1, rfl⟩⟩ := hrel
    cases gk with
    | zero => exact absurd HA.out (by simp [deckleref04_UTF8.l0])
    | succ k1 =>
      have H := HA.out
      clear HA
      simp only [deckleref04_UTF8.l0] at H
      by_cases c2 : x3_1 < (a0.size : Int)
      · rw [if_pos c2] at H
        have c2b0 : decide (x3_1 < (a0.size : Int)) = true := decide_eq_true c2
        clear c2
        by_cases c3 : 0 ≤ x3_1
        · rw [if_pos c3] at H
          have c3b0 : decide (0 ≤ x3_1) = true := decide_eq_true c3
          clear c3
          have HC5 := Aside0.mk H
          clear H
          have p4 : 0 ≤ (x3_1 : Int) := of_decide_eq_true (by first | (with_reducible assumption) | assumption)
          have q4 : x3_1 < (a0.size : Int) := of_decide_eq_true (by first | (with_reducible assumption) | assumption)
          have hx4 := bt_at a0 x3_1
          replace p4 := eq_true p4
          replace q4 := eq_true q4
          go_upto_block 2 with (fail)
          go_cut [3, 4, 5, 6] (fun v3 v4 v5 v6 wc => ∃ (kq : Nat) (x3_4 : Int) (x4_4 : Int) (x5_4 : Int) (x6_4 : Int), v3 = .int .i64 x3_4 ∧ v4 = .int .i64 x4_4 ∧ v5 = .int .i64 x5_4 ∧ v6 = .int .i64 x6_4 ∧ Aside0 (deckleref04_UTF8.j3 kq a0 x3_4 x4_4 x5_4 x6_4 = some r) ∧ Aside0 (kq ≤ k1) ∧ Drawn0 w wc)
          case first =>
            have H := HC5.out
            clear HC5
            by_cases c6 : (wrap64 (bt a0 x3_1)) < 128
            · rw [if_pos c6] at H
              have c6b0 : decide ((wrap64 (bt a0 x3_1)) < 128) = true := decide_eq_true c6
              clear c6
              (first | rw [c6b0] | (simp only [i64_w, i32_w]; rw [c6b0]) | skip)
              have H' := Aside0.mk H
              clear H
              go_wp2
              go_roundg k1
              case measure => have := HK1.out; omega
              case rel => exact ⟨(wrap64 (x3_1 + 1)), (by first | rfl | (simp; done) | (simp [*]; done)), H', ⟨by have := HK1.out; omega⟩, by repeat (first | exact Drawn0.refl _ | apply Drawn0.step)⟩
            · rw [if_neg c6] at H
              have c6b0 : decide ((wrap64 (bt a0 x3_1)) < 128) = false := decide_eq_false c6
              clear c6
              (first | rw [c6b0] | (simp only [i64_w, i32_w]; rw [c6b0]) | skip)
              have HC7 := Aside0.mk H
              clear H
              go_upto_region 9 with (fail)
              go_cut [21] (fun v21 wc => ∃ (kq : Nat) (x21_6 : Bool), v21 = .bool x21_6 ∧ Aside0 (deckleref04_UTF8.j1 kq a0 x3_1 (wrap64 (bt a0 x3_1)) x21_6 = some r) ∧ Aside0 (kq ≤ k1) ∧ Drawn0 w wc)
              case first =>
                have H := HC7.out
                clear HC7
                by_cases c8 : (wrap64 (bt a0 x3_1)) ≥ 194
                · rw [if_pos c8] at H
                  have c8b0 : decide (194 ≤ (wrap64 (bt a0 x3_1))) = true := decide_eq_true c8
                  clear c8
                  (first | rw [c8b0] | (simp only [i64_w, i32_w]; rw [c8b0]) | skip)
                  have H' := Aside0.mk H
                  clear H
                  go_wp2
                  go_meet
                  case rel => exact ⟨_, (decide ((wrap64 (bt a0 x3_1)) < 224)), (by first | rfl | (simp; done) | (simp [*]; done)), H', ⟨by have := HK1.out; first | omega | exact Nat.le_refl _⟩, by repeat (first | exact Drawn0.refl _ | apply Drawn0.step)⟩
                · rw [if_neg c8] at H
                  have c8b0 : decide (194 ≤ (wrap64 (bt a0 x3_1))) = false := decide_eq_false c8
                  clear c8
                  (first | rw [c8b0] | (simp only [i64_w, i32_w]; rw [c8b0]) | skip)
                  have H' := Aside0.mk H
                  clear H
                  go_wp2
                  go_meet
                  case rel => exact ⟨_, (false), (by first | rfl | (simp; done) | (simp [*]; done)), H', ⟨by have := HK1.out; first | omega | exact Nat.le_refl _⟩, by repeat (first | exact Drawn0.refl _ | apply Drawn0.step)⟩
              case rest =>
                clear HC7
                try clear c2
                try clear c2b0
                try clear p2
                try clear c3
                try clear c3b0
                try clear p4
                try clear q4
                try clear hx4
                try clear c5
                try clear c6
                try clear c6b0
                try clear p6
                try clear c8
                try clear c8b0
                try clear p4
                try clear q4
                obtain ⟨kq, x21_6, rfl, HA, HJ6, ⟨mc6, rfl⟩⟩ := hcut
                cases kq with
                | zero => exact absurd HA.out (by simp [deckleref04_UTF8.j1])
                | succ kj6 =>
                  have H := HA.out
                  clear HA
                  simp only [deckleref04_UTF8.j1] at H
                  by_cases c9 : x21_6 = true
                  · subst c9
                    have H1 : (deckleref04_UTF8.j3 kj6 a0 x3_1 (Int.tmod (wrap64 (bt a0 x3_1)) 32) 1 128) = some r := by rw [if_pos rfl] at H; exact H
                    clear H
                    have H := H1
                    clear H1
                    have H' := Aside0.mk H
                    clear H
                    go_wp2
                    go_meet
                    case rel => exact ⟨_, (x3_1), (Int.tmod (wrap64 (bt a0 x3_1)) 32), (1), (128), (by first | rfl | (simp; done) | (simp [*]; done)), (by first | rfl | (simp; done) | (simp [*]; done)), (by first | rfl | (simp; done) | (simp [*]; done)), (by first | rfl | (simp; done) | (simp [*]; done)), H', ⟨by have := HK1.out; have := HJ6.out; first | omega | exact Nat.le_refl _⟩, by repeat (first | exact Drawn0.refl _ | apply Drawn0.step)⟩
                  · replace c9 := Bool.eq_false_iff.mpr c9
                    subst c9
                    have H1 : (if (wrap64 (bt a0 x3_1)) ≥ 224 then (deckleref04_UTF8.j2 kj6 a0 x3_1 (wrap64 (bt a0 x3_1)) (decide ((wrap64 (bt a0 x3_1)) < 240))) else (deckleref04_UTF8.j2 kj6 a0 x3_1 (wrap64 (bt a0 x3_1)) false)) = some r := by rw [if_neg (show ¬ (false = true) by decide)] at H; exact H
                    clear H
                    have H := H1
                    clear H1
                    have HC10 := Aside0.mk H
                    clear H
                    go_upto_region 13 with (fail)
                    go_cut [30] (fun v30 wc => ∃ (kq : Nat) (x30_9 : Bool), v30 = .bool x30_9 ∧ Aside0 (deckleref04_UTF8.j2 kq a0 x3_1 (wrap64 (bt a0 x3_1)) x30_9 = some r) ∧ Aside0 (kq ≤ kj6) ∧ Drawn0 w wc)
                    case first =>
                      have H := HC10.out
                      clear HC10
                      by_cases c11 : (wrap64 (bt a0 x3_1)) ≥ 224
                      · rw [if_pos c11] at H
                        have c11b0 : decide (224 ≤ (wrap64 (bt a0 x3_1))) = true := decide_eq_true c11
                        clear c11
                        (first | rw [c11b0] | (simp only [i64_w, i32_w]; rw [c11b0]) | skip)
                        have H' := Aside0.mk H
                        clear H
                        go_wp2
                        go_meet
                        case rel => exact ⟨_, (decide ((wrap64 (bt a0 x3_1)) < 240)), (by first | rfl | (simp; done) | (simp [*]; done)), H', ⟨by have := HK1.out; have := HJ6.out; first | omega | exact Nat.le_refl _⟩, by repeat (first | exact Drawn0.refl _ | apply Drawn0.step)⟩
                      · rw [if_neg c11] at H
                        have c11b0 : decide (224 ≤ (wrap64 (bt a0 x3_1))) = false := decide_eq_false c11
                        clear c11
                        (first | rw [c11b0] | (simp only [i64_w, i32_w]; rw [c11b0]) | skip)
                        have H' := Aside0.mk H
                        clear H
                        go_wp2
                        go_meet
                        case rel => exact ⟨_, (false), (by first | rfl | (simp; done) | (simp [*]; done)), H', ⟨by have := HK1.out; have := HJ6.out; first | omega | exact Nat.le_refl _⟩, by repeat (first | exact Drawn0.refl _ | apply Drawn0.step)⟩
                    case rest =>
                      clear HC10
                      try clear c1
                      try clear c2
                      try clear c2b0
                      try clear p2
                      try clear c3
                      try clear c3b0
                      try clear p4
                      try clear q4
                      try clear hx4
                      try clear c5
                      try clear c6
                      try clear c6b0
                      try clear p6
                      try clear c8
                      try clear c8b0
                      try clear c9
                      try clear c11
                      try clear c11b0
                      try clear p2
                      try clear p4
                      try clear p6
                      try clear q4
                      obtain ⟨kq, x30_9, rfl, HA, HJ9, ⟨mc9, rfl⟩⟩ := hcut
                      cases kq with
                      | zero => exact absurd HA.out (by simp [deckleref04_UTF8.j2])
                      | succ kj9 =>
                        have H := HA.out
                        clear HA
                        simp only [deckleref04_UTF8.j2] at H
                        by_cases c12 : x30_9 = true
                        · subst c12
                          have H1 : (deckleref04_UTF8.j3 kj9 a0 x3_1 (Int.tmod (wrap64 (bt a0 x3_1)) 16) 2 2048) = some r := by rw [if_pos rfl] at H; exact H
                          clear H
                          have H := H1
                          clear H1
                          have H' := Aside0.mk H
                          clear H
                          go_wp2
                          go_meet
                          case rel => exact ⟨_, (x3_1), (Int.tmod (wrap64 (bt a0 x3_1)) 16), (2), (2048), (by first | rfl | (simp; done) | (simp [*]; done)), (by first | rfl | (simp; done) | (simp [*]; done)), (by first | rfl | (simp; done) | (simp [*]; done)), (by first | rfl | (simp; done) | (simp [*]; done)), H', ⟨by have := HK1.out; have := HJ6.out; have := HJ9.out; first | omega | exact Nat.le_refl _⟩, by repeat (first | exact Drawn0.refl _ | apply Drawn0.step)⟩
                        · replace c12 := Bool.eq_false_iff.mpr c12
                          subst c12
                          have H1 : (if (wrap64 (bt a0 x3_1)) ≥ 240 then (if (wrap64 (bt a0 x3_1)) < 245 then (deckleref04_UTF8.j3 kj9 a0 x3_1 (Int.tmod (wrap64 (bt a0 x3_1)) 8) 3 65536) else (some false)) else (some false)) = some r := by rw [if_neg (show ¬ (false = true) by decide)] at H; exact H
                          clear H
                          have H := H1
                          clear H1
                          by_cases c13 : (wrap64 (bt a0 x3_1)) ≥ 240
                          · rw [if_pos c13] at H
                            have c13b0 : decide (240 ≤ (wrap64 (bt a0 x3_1))) = true := decide_eq_true c13
                            clear c13
                            by_cases c14 : (wrap64 (bt a0 x3_1)) < 245
                            · rw [if_pos c14] at H
                              have c14b0 : decide ((wrap64 (bt a0 x3_1)) < 245) = true := decide_eq_true c14
                              clear c14
                              have H' := Aside0.mk H
                              clear H
                              go_wp2
                              go_meet
                              case rel => exact ⟨_, (x3_1), (Int.tmod (wrap64 (bt a0 x3_1)) 8), (3), (65536), (by first | rfl | (simp; done) | (simp [*]; done)), (by first | rfl | (simp; done) | (simp [*]; done)), (by first | rfl | (simp; done) | (simp [*]; done)), (by first | rfl | (simp; done) | (simp [*]; done)), H', ⟨by have := HK1.out; have := HJ6.out; have := HJ9.out; first | omega | exact Nat.le_refl _⟩, by repeat (first | exact Drawn0.refl _ | apply Drawn0.step)⟩
                            · rw [if_neg c14] at H
                              have c14b0 : decide ((wrap64 (bt a0 x3_1)) < 245) = false := decide_eq_false c14
                              clear c14
                              obtain rfl := Option.some.inj H
                              go_wp2
                              go_ret
                              exact ⟨by first | rfl | (simp; done) | (simp [*]; done), by repeat (first | exact Drawn0.refl _ | apply Drawn0.step)⟩
                          · rw [if_neg c13] at H
                            have c13b0 : decide (240 ≤ (wrap64 (bt a0 x3_1))) = false := decide_eq_false c13
                            clear c13
                            obtain rfl := Option.some.inj H
                            go_wp2
                            go_ret
                            exact ⟨by first | rfl | (simp; done) | (simp [*]; done), by repeat (first | exact Drawn0.refl _ | apply Drawn0.step)⟩
          case rest =>
            clear HC5
            try clear c1
            try clear c2
            try clear c2b0
            try clear p2
            try clear c3
            try clear c3b0
            try clear p4
            try clear q4
            try clear hx4
            try clear c5
            try clear c6
            try clear c6b0
            try clear p6
            try clear c8
            try clear c8b0
            try clear c9
            try clear c11
            try clear c11b0
            try clear c12
            try clear c13
            try clear c13b0
            try clear c14
            try clear c14b0
            try clear p2
            try clear p4
            try clear p6
            try clear q4
            obtain ⟨kq, x3_4, x4_4, x5_4, x6_4, rfl, rfl, rfl, rfl, HA, HJ4, ⟨mc4, rfl⟩⟩ := hcut
            cases kq with
            | zero => exact absurd HA.out (by simp [deckleref04_UTF8.j3])
            | succ kj4 =>
              have H := HA.out
              clear HA
              simp only [deckleref04_UTF8.j3] at H
              have H' := Aside0.mk H
              clear H
              go_wp2
              go_loopg [4, 7] kj4 (fun kq v4 v7 w' => ∃ (x4_3 : Int) (x7_3 : Int), v4 = .int .i64 x4_3 ∧ v7 = .int .i64 x7_3 ∧ Aside0 (deckleref04_UTF8.l1 kq a0 x3_4 x4_3 x5_4 x6_4 x7_3 = some r) ∧ Aside0 (kq ≤ kj4) ∧ Drawn0 w w')
              case atStart => exact ⟨(x4_4), (1), (by first | rfl | (simp; done) | (simp [*]; done)), (by first | rfl | (simp; done) | (simp [*]; done)), H', ⟨Nat.le_refl _⟩, by repeat (first | exact Drawn0.refl _ | apply Drawn0.step)⟩
              case round =>
                clear H'
                try clear c1
                try clear c2
                try clear c2b0
                try clear p2
                try clear c3
                try clear c3b0
                try clear c4
                try clear p4
                try clear q4
                try clear hx4
                try clear c5
                try clear c6
                try clear c6b0
                try clear p6
                try clear c8
                try clear c8b0
                try clear c9
                try clear c11
                try clear c11b0
                try clear c12
                try clear c13
                try clear c13b0
                try clear c14
                try clear c14b0
                try clear p2
                try clear p4
                try clear p6
                try clear q4
                obtain ⟨x4_3, x7_3, rfl, rfl, HA, HK3, ⟨m3, rfl⟩⟩ := hrel
                cases gk with
                | zero => exact absurd HA.out (by simp [deckleref04_UTF8.l1])
                | succ k3 =>
                  have H := HA.out
                  clear HA
                  simp only [deckleref04_UTF8.l1] at H
                  by_cases c15 : x7_3 ≤ x5_4
                  · rw [if_pos c15] at H
                    have c15b0 : decide (x7_3 ≤ x5_4) = true := decide_eq_true c15
                    clear c15
                    by_cases c16 : (wrap64 (x3_4 + x7_3)) ≥ (a0.size : Int)
                    · rw [if_pos c16] at H
                      have c16b0 : decide ((a0.size : Int) ≤ (wrap64 (x3_4 + x7_3))) = true := decide_eq_true c16
                      clear c16
                      obtain rfl := Option.some.inj H
                      go_wp2
                      go_ret
                      exact ⟨by first | rfl | (simp; done) | (simp [*]; done), by repeat (first | exact Drawn0.refl _ | apply Drawn0.step)⟩
                    · rw [if_neg c16] at H
                      have c16b0 : decide ((a0.size : Int) ≤ (wrap64 (x3_4 + x7_3))) = false := decide_eq_false c16
                      clear c16
                      obtain ⟨ji17, hji17⟩ : ∃ j_ : Int, (wrap64 (x3_4 + x7_3)) = j_ := ⟨_, rfl⟩
                      replace H : (if 0 ≤ (ji17) then (if (ji17) < (a0.size : Int) then (if ((Int.tdiv (bt a0 (ji17)) 64) % 256) = 2 then (deckleref04_UTF8.l1 k3 a0 x3_4 (wrap64 ((wrap64 (64 * x4_3)) + (wrap64 (Int.tmod (bt a0 (ji17)) 64)))) x5_4 x6_4 (wrap64 (x7_3 + 1))) else (some false)) else (none)) else (none)) = some r := by first | (rw [hji17] at H; exact H) | (simp only [hji17] at H ⊢; exact H)
                      (try rw [hji17] at c16b0)
                      have hji17w : (IntKind.i64.wrap (x3_4 + x7_3)) = ji17 := (i64_w _).trans hji17
                      by_cases c18 : 0 ≤ (ji17)
                      · rw [if_pos c18] at H
                        have c18b0 : decide (0 ≤ (ji17)) = true := decide_eq_true c18
                        clear c18
                        by_cases c19 : (ji17) < (a0.size : Int)
                        · rw [if_pos c19] at H
                          have c19b0 : decide ((ji17) < (a0.size : Int)) = true := decide_eq_true c19
                          clear c19
                          by_cases c21 : ((Int.tdiv (bt a0 (ji17)) 64) % 256) = 2
                          · rw [if_pos c21] at H
                            have c21b0 : (((Int.tdiv (bt a0 (ji17)) 64) % 256) == 2) = true := beq_iff_eq.mpr c21
                            have c21b1 : (((Int.tdiv (bt a0 (ji17)) 64) % 256) != 2) = false := bne_eq_false_iff_eq.mpr c21
                            clear c21
                            have H' := Aside0.mk H
                            clear H
                            have p20 : 0 ≤ ((ji17) : Int) := of_decide_eq_true (by first | (with_reducible assumption) | assumption)
                            have q20 : (ji17) < (a0.size : Int) := of_decide_eq_true (by first | (with_reducible assumption) | assumption)
                            have hx20 := bt_at a0 (ji17)
                            replace p20 := eq_true p20
                            replace q20 := eq_true q20
                            have p22 : 0 ≤ ((ji17) : Int) := of_decide_eq_true (by first | (with_reducible assumption) | assumption)
                            have q22 : (ji17) < (a0.size : Int) := of_decide_eq_true (by first | (with_reducible assumption) | assumption)
                            have hx22 := bt_at a0 (ji17)
                            replace p22 := eq_true p22
                            replace q22 := eq_true q22
                            go_wp2
                            go_roundg k3
                            case measure => have := HK1.out; have := HJ4.out; have := HK3.out; omega
                            case rel => exact ⟨(wrap64 ((wrap64 (64 * x4_3)) + (wrap64 (Int.tmod (bt a0 (ji17)) 64)))), (wrap64 (x7_3 + 1)), (by first | rfl | (simp; done) | (simp only [← hji17] <;> (first | rfl | simp)) | (simp [*]; done)), (by first | rfl | (simp; done) | (simp [*]; done)), H', ⟨by have := HK1.out; have := HJ4.out; have := HK3.out; omega⟩, by repeat (first | exact Drawn0.refl _ | apply Drawn0.step)⟩
                          · rw [if_neg c21] at H
                            have c21b0 : (((Int.tdiv (bt a0 (ji17)) 64) % 256) == 2) = false := beq_eq_false_iff_ne.mpr c21
                            have c21b1 : (((Int.tdiv (bt a0 (ji17)) 64) % 256) != 2) = true := bne_iff_ne.mpr c21
                            obtain rfl := Option.some.inj H
                            have p20 : 0 ≤ ((ji17) : Int) := of_decide_eq_true (by first | (with_reducible assumption) | assumption)
                            have q20 : (ji17) < (a0.size : Int) := of_decide_eq_true (by first | (with_reducible assumption) | assumption)
                            have hx20 := bt_at a0 (ji17)
                            replace p20 := eq_true p20
                            replace q20 := eq_true q20
                            go_wp2
                            go_ret
                            exact ⟨by first | rfl | (simp; done) | (simp only [← hji17] <;> (first | rfl | simp)) | (simp [*]; done), by repeat (first | exact Drawn0.refl _ | apply Drawn0.step)⟩
                        · rw [if_neg c19] at H
                          exact absurd H (by simp)
                      · rw [if_neg c18] at H
                        exact absurd H (by simp)
                  · rw [if_neg c15] at H
                    have c15b0 : decide (x7_3 ≤ x5_4) = false := decide_eq_false c15
                    clear c15
                    by_cases c23 : x4_3 < x6_4
                    · rw [if_pos c23] at H
                      have c23b0 : decide (x4_3 < x6_4) = true := decide_eq_true c23
                      clear c23
                      obtain rfl := Option.some.inj H
                      go_wp2
                      go_ret
                      exact ⟨by first | rfl | (simp; done) | (simp [*]; done), by repeat (first | exact Drawn0.refl _ | apply Drawn0.step)⟩
                    · rw [if_neg c23] at H
                      have c23b0 : decide (x4_3 < x6_4) = false := decide_eq_false c23
                      clear c23
                      by_cases c24 : x4_3 > 1114111
                      · rw [if_pos c24] at H
                        have c24b0 : decide (1114111 < x4_3) = true := decide_eq_true c24
                        clear c24
                        obtain rfl := Option.some.inj H
                        go_wp2
                        go_ret
                        exact ⟨by first | rfl | (simp; done) | (simp [*]; done), by repeat (first | exact Drawn0.refl _ | apply Drawn0.step)⟩
                      · rw [if_neg c24] at H
                        have c24b0 : decide (1114111 < x4_3) = false := decide_eq_false c24
                        clear c24
                        by_cases c25 : x4_3 ≥ 55296
                        · rw [if_pos c25] at H
                          have c25b0 : decide (55296 ≤ x4_3) = true := decide_eq_true c25
                          clear c25
                          by_cases c26 : x4_3 < 57344
                          · rw [if_pos c26] at H
                            have c26b0 : decide (x4_3 < 57344) = true := decide_eq_true c26
                            clear c26
                            obtain rfl := Option.some.inj H
                            go_wp2
                            go_ret
                            exact ⟨by first | rfl | (simp; done) | (simp [*]; done), by repeat (first | exact Drawn0.refl _ | apply Drawn0.step)⟩
                          · rw [if_neg c26] at H
                            have c26b0 : decide (x4_3 < 57344) = false := decide_eq_false c26
                            clear c26
                            have H' := Aside0.mk H
                            clear H
                            go_wp2
                            go_roundg k3
                            case measure => have := HK1.out; have := HJ4.out; have := HK3.out; omega
                            case rel => exact ⟨(wrap64 (x3_4 + (wrap64 (x5_4 + 1)))), (by first | rfl | (simp; done) | (simp [*]; done)), H', ⟨by have := HK1.out; have := HJ4.out; have := HK3.out; omega⟩, by repeat (first | exact Drawn0.refl _ | apply Drawn0.step)⟩
                        · rw [if_neg c25] at H
                          have c25b0 : decide (55296 ≤ x4_3) = false := decide_eq_false c25
                          clear c25
                          have H' := Aside0.mk H
                          clear H
                          go_wp2
                          go_roundg k3
                          case measure => have := HK1.out; have := HJ4.out; have := HK3.out; omega
                          case rel => exact ⟨(wrap64 (x3_4 + (wrap64 (x5_4 + 1)))), (by first | rfl | (simp; done) | (simp [*]; done)), H', ⟨by have := HK1.out; have := HJ4.out; have := HK3.out; omega⟩, by repeat (first | exact Drawn0.refl _ | apply Drawn0.step)⟩
        · rw [if_neg c3] at H
          exact absurd H (by simp)
      · rw [if_neg c2] at H
        have c2b0 : decide (x3_1 < (a0.size : Int)) = false := decide_eq_false c2
        clear c2
        obtain rfl := Option.some.inj H
        go_wp2
        go_ret
        exact ⟨by first | rfl | (simp; done) | (simp [*]; done), by repeat (first | exact Drawn0.refl _ | apply Drawn0.step)⟩

end Go.Proofs.YtnmjelcicbfjdaaDoor.PCo
