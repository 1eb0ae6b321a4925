import Derived.Test.YtnmjelcicbfjdaaDoorCeP
/-! CellFloats: the call. -/
namespace Go.Proofs.YtnmjelcicbfjdaaDoor.Ce
open Go.RowKit Go.Proofs.YtnmjelcicbfjdaaDoorW.PrintWords Go.Proofs.YtnmjelcicbfjdaaDoorW.PrintLast Go.Proofs.YtnmjelcicbfjdaaDoorW.PrintMore Go.Proofs.YtnmjelcicbfjdaaDoor.Wire Go.Proofs.YtnmjelcicbfjdaaDoor.PCo Go.Proofs.YtnmjelcicbfjdaaDoor.Co Go.Maps Go.WideMaps
set_option linter.unusedVariables false
set_option linter.unusedSimpArgs false
set_option maxRecDepth 100000
set_option maxHeartbeats 16000000 in
theorem floats_calls (x y : Nat) (w : World) (hU : UtfW w) (hx : x < 18446744073709551616) (hy : y < 18446744073709551616) :
    Calls Tryd.prog 5 #[.int .u64 (x : Int), .int .u64 (y : Int)] w fun e w' => e = .returned (.bool true) ∧ Below w.heap.size w w' := by
  have HC := Aside0.mk (fun (W : World) (hb : Below w.heap.size w W) => compare_calls 5 (x : Int) (y : Int) e0 e0 W ⟨by omega, by omega⟩ ⟨by omega, by omega⟩ (by decide) (by decide) (hU.below hb))
  have HAL := Aside0.mk (fun (W : World) (hb : Below w.heap.size w W) => alive_calls W (hU.below hb))
  have hl := floats_law hx hy
  have b1 : ∀ w, (callFunc 17 #[.int .u64 (x : Int)]).run Tryd.prog w = .ok (.value (.float .f64 x)) w := fun w => frombits_run (x : Int) w
  have b2 : ∀ w, (callFunc 17 #[.int .u64 (y : Int)]).run Tryd.prog w = .ok (.value (.float .f64 y)) w := fun w => frombits_run (y : Int) w
  have b3 : ∀ w, (callFunc 19 #[.float .f64 x]).run Tryd.prog w = .ok (.value (.int .u64 (x : Int))) w := fun w => bits_run x w
  obtain ⟨N, hN⟩ : ∃ N, cmpv 5 (x : Int) e0 (y : Int) e0 = N := ⟨_, rfl⟩
  rw [hN] at HC hl
  have HL := Aside0.mk hl
  clear hU hN hl hx hy
  have hmm := @run_makeMap Tryd.prog
  go_enter Tryd.func5, Tryd.ntmps5
  go_wp2_with fail
  refine (float_calls x _).mono ?_
  rintro e w1 ⟨rfl, hb⟩
  have HB := Aside0.mk hb
  clear hb
  go_wp2_with fail
  refine (float_calls y _).mono ?_
  rintro e w2 ⟨rfl, hb⟩
  replace HB := Aside0.mk (below_step HB.out hb)
  clear hb
  go_wp2_with fail
  have hbw := below_alloc (below_alloc (Below.refl w2.heap.size w2) (.cells #[.int .u64 (x : Int), .string e0] 24)) (.cells #[.int .u64 (y : Int), .string e0] 24)
  have h7 := blk_alloc (heap_alloc_new w2 (.cells #[.int .u64 (x : Int), .string e0] 24)) (.cells #[.int .u64 (y : Int), .string e0] 24)
  have h8 : (w2.alloc (.cells #[.int .u64 (x : Int), .string e0] 24)).alloc (.cells #[.int .u64 (y : Int), .string e0] 24) |>.heap[w2.heap.size + 1]? = some (.cells #[.int .u64 (y : Int), .string e0] 24 (0, 0)) := by simpa using heap_alloc_new (w2.alloc (.cells #[.int .u64 (x : Int), .string e0] 24)) (.cells #[.int .u64 (y : Int), .string e0] 24)
  obtain ⟨W4, hW4⟩ : ∃ W4, (w2.alloc (.cells #[.int .u64 (x : Int), .string e0] 24)).alloc (.cells #[.int .u64 (y : Int), .string e0] 24) = W4 := ⟨_, rfl⟩
  rw [hW4] at hbw h7 h8 ⊢
  replace HB := Aside0.mk (below_step HB.out hbw)
  obtain ⟨p, hp⟩ : ∃ p, w2.heap.size = p := ⟨_, rfl⟩
  rw [hp] at h7 h8 ⊢
  obtain ⟨q, hq⟩ : ∃ q, p + 1 = q := ⟨_, rfl⟩
  rw [hq] at h8 ⊢
  clear hW4 hbw hp hq
  have BX := Aside0.mk h7
  have BY := Aside0.mk h8
  clear h7 h8
  refine (HC.out _ HB.out).mono ?_
  rintro e w5 ⟨rfl, hb⟩
  replace HB := Aside0.mk (below_step HB.out hb)
  replace BX := Aside0.mk (blk_below BX.out hb)
  replace BY := Aside0.mk (blk_below BY.out hb)
  clear hb HC
  cases hL : (FloatKind.f64.format.order x y == some .lt)
  · cases hG : (FloatKind.f64.format.order x y == some .gt)
    · cases hE : (FloatKind.f64.format.order x y == some .eq)
      · have hn := HL.out.none hL hG hE
        cases hnx : Flo.nan x
        · rw [hnx] at hn
          have hny : Flo.nan y = true := hn.resolve_left (by simp)
          clear hn HL
          have HNX := Aside0.mk (fun W => isnan_calls x W)
          have HNY := Aside0.mk (fun W => isnan_calls y W)
          rw [hnx] at HNX
          rw [hny] at HNY
          clear hnx hny
          go_wp2_with fail
          refine (HNX.out _).mono ?_
          rintro e u ⟨rfl, rfl⟩
          (try clear c70 c71 c80)
          have c70 : w5.cell? ⟨p, 0, none⟩ = some (.int .u64 (x : Int)) := (blk_cell BX.out 0).trans rfl
          have c71 : w5.cell? ⟨p, 1, none⟩ = some (.string e0) := (blk_cell BX.out 1).trans rfl
          have c80 : w5.cell? ⟨q, 0, none⟩ = some (.int .u64 (y : Int)) := (blk_cell BY.out 0).trans rfl
          go_wp2_with fail
          refine (HNX.out _).mono ?_
          rintro e u ⟨rfl, rfl⟩
          go_wp2_with fail
          refine (HNY.out _).mono ?_
          rintro e u ⟨rfl, rfl⟩
          go_wp2_with fail
          refine (HAL.out _ HB.out).mono ?_
          rintro e w6 ⟨rfl, hb⟩
          replace HB := Aside0.mk (below_step HB.out hb)
          clear hb c70 c71 c80
          go_wp2_with fail
          refine (HNX.out _).mono ?_
          rintro e u ⟨rfl, rfl⟩
          go_wp2_with fail
          refine (number_calls x _).mono ?_
          rintro e w7 ⟨rfl, hb⟩
          replace HB := Aside0.mk (below_step HB.out hb)
          clear hb
          go_wp2_with fail
          go_ret
          exact ⟨rfl, HB.out⟩
        · cases hny : Flo.nan y
          · have hs := HL.out.sign hnx hny
            clear hn HL
            cases hb1 : ((x : Int) / 9223372036854775808 == 1)
            · rw [hb1] at hs
              simp only [Bool.false_eq_true, if_false] at hs
              subst hs
              have HNX := Aside0.mk (fun W => isnan_calls x W)
              have HNY := Aside0.mk (fun W => isnan_calls y W)
              rw [hnx] at HNX
              rw [hny] at HNY
              clear hnx hny
              go_wp2_with fail
              refine (HNX.out _).mono ?_
              rintro e u ⟨rfl, rfl⟩
              go_wp2_with fail
              refine (HNY.out _).mono ?_
              rintro e u ⟨rfl, rfl⟩
              obtain ⟨m1, m2, r1, r2, r3, hb⟩ := sign_map w5
              have r4 := r3 false
              replace HB := Aside0.mk (below_step HB.out hb)
              replace BX := Aside0.mk (blk_below BX.out hb)
              replace BY := Aside0.mk (blk_below BY.out hb)
              clear hb r3
              go_wp2_with fail
              clear r1 r2 r4
              (try clear c70 c71 c80)
              have c70 : m2.cell? ⟨p, 0, none⟩ = some (.int .u64 (x : Int)) := (blk_cell BX.out 0).trans rfl
              have c71 : m2.cell? ⟨p, 1, none⟩ = some (.string e0) := (blk_cell BX.out 1).trans rfl
              have c80 : m2.cell? ⟨q, 0, none⟩ = some (.int .u64 (y : Int)) := (blk_cell BY.out 0).trans rfl
              go_wp2_with fail
              refine (HNX.out _).mono ?_
              rintro e u ⟨rfl, rfl⟩
              go_wp2_with fail
              refine (HNY.out _).mono ?_
              rintro e u ⟨rfl, rfl⟩
              go_wp2_with fail
              refine (HAL.out _ HB.out).mono ?_
              rintro e w6 ⟨rfl, hb⟩
              replace HB := Aside0.mk (below_step HB.out hb)
              clear hb c70 c71 c80
              go_wp2_with fail
              refine (HNX.out _).mono ?_
              rintro e u ⟨rfl, rfl⟩
              go_wp2_with fail
              go_ret
              exact ⟨rfl, HB.out⟩
            · rw [hb1] at hs
              simp only [if_true] at hs
              subst hs
              have HNX := Aside0.mk (fun W => isnan_calls x W)
              have HNY := Aside0.mk (fun W => isnan_calls y W)
              rw [hnx] at HNX
              rw [hny] at HNY
              clear hnx hny
              go_wp2_with fail
              refine (HNX.out _).mono ?_
              rintro e u ⟨rfl, rfl⟩
              go_wp2_with fail
              refine (HNY.out _).mono ?_
              rintro e u ⟨rfl, rfl⟩
              obtain ⟨m1, m2, r1, r2, r3, hb⟩ := sign_map w5
              have r4 := r3 true
              replace HB := Aside0.mk (below_step HB.out hb)
              replace BX := Aside0.mk (blk_below BX.out hb)
              replace BY := Aside0.mk (blk_below BY.out hb)
              clear hb r3
              go_wp2_with fail
              clear r1 r2 r4
              (try clear c70 c71 c80)
              have c70 : m2.cell? ⟨p, 0, none⟩ = some (.int .u64 (x : Int)) := (blk_cell BX.out 0).trans rfl
              have c71 : m2.cell? ⟨p, 1, none⟩ = some (.string e0) := (blk_cell BX.out 1).trans rfl
              have c80 : m2.cell? ⟨q, 0, none⟩ = some (.int .u64 (y : Int)) := (blk_cell BY.out 0).trans rfl
              go_wp2_with fail
              refine (HNX.out _).mono ?_
              rintro e u ⟨rfl, rfl⟩
              go_wp2_with fail
              refine (HNY.out _).mono ?_
              rintro e u ⟨rfl, rfl⟩
              go_wp2_with fail
              refine (HAL.out _ HB.out).mono ?_
              rintro e w6 ⟨rfl, hb⟩
              replace HB := Aside0.mk (below_step HB.out hb)
              clear hb c70 c71 c80
              go_wp2_with fail
              refine (HNX.out _).mono ?_
              rintro e u ⟨rfl, rfl⟩
              go_wp2_with fail
              go_ret
              exact ⟨rfl, HB.out⟩
          · clear hn HL
            have HNX := Aside0.mk (fun W => isnan_calls x W)
            have HNY := Aside0.mk (fun W => isnan_calls y W)
            rw [hnx] at HNX
            rw [hny] at HNY
            clear hnx hny
            go_wp2_with fail
            refine (HNX.out _).mono ?_
            rintro e u ⟨rfl, rfl⟩
            go_wp2_with fail
            refine (HNY.out _).mono ?_
            rintro e u ⟨rfl, rfl⟩
            (try clear c70 c71 c80)
            have c70 : w5.cell? ⟨p, 0, none⟩ = some (.int .u64 (x : Int)) := (blk_cell BX.out 0).trans rfl
            have c71 : w5.cell? ⟨p, 1, none⟩ = some (.string e0) := (blk_cell BX.out 1).trans rfl
            have c80 : w5.cell? ⟨q, 0, none⟩ = some (.int .u64 (y : Int)) := (blk_cell BY.out 0).trans rfl
            go_wp2_with fail
            refine (HNX.out _).mono ?_
            rintro e u ⟨rfl, rfl⟩
            go_wp2_with fail
            refine (HNY.out _).mono ?_
            rintro e u ⟨rfl, rfl⟩
            go_wp2_with fail
            refine (HAL.out _ HB.out).mono ?_
            rintro e w6 ⟨rfl, hb⟩
            replace HB := Aside0.mk (below_step HB.out hb)
            clear hb c70 c71 c80
            go_wp2_with fail
            refine (HNX.out _).mono ?_
            rintro e u ⟨rfl, rfl⟩
            go_wp2_with fail
            go_ret
            exact ⟨rfl, HB.out⟩
      · obtain ⟨hz, hnx, hny, -, -⟩ := HL.out.eq hE
        clear HL
        cases hZ : (FloatKind.f64.format.order x 0 != some .eq)
        · clear hz
          have HNX := Aside0.mk (fun W => isnan_calls x W)
          have HNY := Aside0.mk (fun W => isnan_calls y W)
          rw [hnx] at HNX
          rw [hny] at HNY
          clear hnx hny
          go_wp2_with fail
          refine (HNX.out _).mono ?_
          rintro e u ⟨rfl, rfl⟩
          (try clear c70 c71 c80)
          have c70 : w5.cell? ⟨p, 0, none⟩ = some (.int .u64 (x : Int)) := (blk_cell BX.out 0).trans rfl
          have c71 : w5.cell? ⟨p, 1, none⟩ = some (.string e0) := (blk_cell BX.out 1).trans rfl
          have c80 : w5.cell? ⟨q, 0, none⟩ = some (.int .u64 (y : Int)) := (blk_cell BY.out 0).trans rfl
          go_wp2_with fail
          refine (HNX.out _).mono ?_
          rintro e u ⟨rfl, rfl⟩
          go_wp2_with fail
          refine (HNY.out _).mono ?_
          rintro e u ⟨rfl, rfl⟩
          go_wp2_with fail
          refine (HAL.out _ HB.out).mono ?_
          rintro e w6 ⟨rfl, hb⟩
          replace HB := Aside0.mk (below_step HB.out hb)
          clear hb c70 c71 c80
          go_wp2_with fail
          refine (HNX.out _).mono ?_
          rintro e u ⟨rfl, rfl⟩
          go_wp2_with fail
          refine (number_calls x _).mono ?_
          rintro e w7 ⟨rfl, hb⟩
          replace HB := Aside0.mk (below_step HB.out hb)
          clear hb
          go_wp2_with fail
          go_ret
          exact ⟨rfl, HB.out⟩
        · have hN := hz hZ
          subst hN
          clear hz
          have HNX := Aside0.mk (fun W => isnan_calls x W)
          have HNY := Aside0.mk (fun W => isnan_calls y W)
          rw [hnx] at HNX
          rw [hny] at HNY
          clear hnx hny
          go_wp2_with fail
          refine (HNX.out _).mono ?_
          rintro e u ⟨rfl, rfl⟩
          (try clear c70 c71 c80)
          have c70 : w5.cell? ⟨p, 0, none⟩ = some (.int .u64 (x : Int)) := (blk_cell BX.out 0).trans rfl
          have c71 : w5.cell? ⟨p, 1, none⟩ = some (.string e0) := (blk_cell BX.out 1).trans rfl
          have c80 : w5.cell? ⟨q, 0, none⟩ = some (.int .u64 (y : Int)) := (blk_cell BY.out 0).trans rfl
          go_wp2_with fail
          refine (HNX.out _).mono ?_
          rintro e u ⟨rfl, rfl⟩
          go_wp2_with fail
          refine (HNY.out _).mono ?_
          rintro e u ⟨rfl, rfl⟩
          go_wp2_with fail
          refine (HAL.out _ HB.out).mono ?_
          rintro e w6 ⟨rfl, hb⟩
          replace HB := Aside0.mk (below_step HB.out hb)
          clear hb c70 c71 c80
          go_wp2_with fail
          refine (HNX.out _).mono ?_
          rintro e u ⟨rfl, rfl⟩
          go_wp2_with fail
          refine (number_calls x _).mono ?_
          rintro e w7 ⟨rfl, hb⟩
          replace HB := Aside0.mk (below_step HB.out hb)
          clear hb
          go_wp2_with fail
          go_ret
          exact ⟨rfl, HB.out⟩
    · obtain ⟨hN, hnx, hny, -, hE⟩ := HL.out.gt hG
      subst hN
      clear HL
      have HNX := Aside0.mk (fun W => isnan_calls x W)
      have HNY := Aside0.mk (fun W => isnan_calls y W)
      rw [hnx] at HNX
      rw [hny] at HNY
      clear hnx hny
      go_wp2_with fail
      refine (HNX.out _).mono ?_
      rintro e u ⟨rfl, rfl⟩
      (try clear c70 c71 c80)
      have c70 : w5.cell? ⟨p, 0, none⟩ = some (.int .u64 (x : Int)) := (blk_cell BX.out 0).trans rfl
      have c71 : w5.cell? ⟨p, 1, none⟩ = some (.string e0) := (blk_cell BX.out 1).trans rfl
      have c80 : w5.cell? ⟨q, 0, none⟩ = some (.int .u64 (y : Int)) := (blk_cell BY.out 0).trans rfl
      go_wp2_with fail
      refine (HNX.out _).mono ?_
      rintro e u ⟨rfl, rfl⟩
      go_wp2_with fail
      refine (HNY.out _).mono ?_
      rintro e u ⟨rfl, rfl⟩
      go_wp2_with fail
      refine (HAL.out _ HB.out).mono ?_
      rintro e w6 ⟨rfl, hb⟩
      replace HB := Aside0.mk (below_step HB.out hb)
      clear hb c70 c71 c80
      go_wp2_with fail
      refine (HNX.out _).mono ?_
      rintro e u ⟨rfl, rfl⟩
      go_wp2_with fail
      refine (number_calls x _).mono ?_
      rintro e w7 ⟨rfl, hb⟩
      replace HB := Aside0.mk (below_step HB.out hb)
      clear hb
      go_wp2_with fail
      go_ret
      exact ⟨rfl, HB.out⟩
  · obtain ⟨hN, hnx, hny, hG, hE⟩ := HL.out.lt hL
    subst hN
    clear HL
    have HNX := Aside0.mk (fun W => isnan_calls x W)
    have HNY := Aside0.mk (fun W => isnan_calls y W)
    rw [hnx] at HNX
    rw [hny] at HNY
    clear hnx hny
    go_wp2_with fail
    refine (HNX.out _).mono ?_
    rintro e u ⟨rfl, rfl⟩
    (try clear c70 c71 c80)
    have c70 : w5.cell? ⟨p, 0, none⟩ = some (.int .u64 (x : Int)) := (blk_cell BX.out 0).trans rfl
    have c71 : w5.cell? ⟨p, 1, none⟩ = some (.string e0) := (blk_cell BX.out 1).trans rfl
    have c80 : w5.cell? ⟨q, 0, none⟩ = some (.int .u64 (y : Int)) := (blk_cell BY.out 0).trans rfl
    go_wp2_with fail
    refine (HNX.out _).mono ?_
    rintro e u ⟨rfl, rfl⟩
    go_wp2_with fail
    refine (HNY.out _).mono ?_
    rintro e u ⟨rfl, rfl⟩
    go_wp2_with fail
    refine (HAL.out _ HB.out).mono ?_
    rintro e w6 ⟨rfl, hb⟩
    replace HB := Aside0.mk (below_step HB.out hb)
    clear hb c70 c71 c80
    go_wp2_with fail
    refine (HNX.out _).mono ?_
    rintro e u ⟨rfl, rfl⟩
    go_wp2_with fail
    refine (number_calls x _).mono ?_
    rintro e w7 ⟨rfl, hb⟩
    replace HB := Aside0.mk (below_step HB.out hb)
    clear hb
    go_wp2_with fail
    go_ret
    exact ⟨rfl, HB.out⟩
theorem floats_calls_ (a b : Int) (w : World) (hU : UtfW w) (ha : 0 ≤ a ∧ a < 18446744073709551616) (hb : 0 ≤ b ∧ b < 18446744073709551616) :
    Calls Tryd.prog 5 #[.int .u64 a, .int .u64 b] w fun e w' => e = .returned (.bool true) ∧ Below w.heap.size w w' := by
  obtain ⟨x, rfl⟩ := Int.eq_ofNat_of_zero_le ha.1
  obtain ⟨y, rfl⟩ := Int.eq_ofNat_of_zero_le hb.1
  exact floats_calls x y w hU (by omega) (by omega)
end Go.Proofs.YtnmjelcicbfjdaaDoor.Ce
