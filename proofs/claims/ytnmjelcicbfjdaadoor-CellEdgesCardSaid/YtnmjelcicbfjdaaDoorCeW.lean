import Derived.Test.YtnmjelcicbfjdaaDoorCeE
/-! CellEdges: the call. -/
namespace Go.Proofs.YtnmjelcicbfjdaaDoor.Ce
open Go.RowKit Go.Proofs.YtnmjelcicbfjdaaDoorW.PrintWords Go.Proofs.YtnmjelcicbfjdaaDoorW.PrintLast Go.Proofs.YtnmjelcicbfjdaaDoorW.PrintMore Go.Proofs.YtnmjelcicbfjdaaDoor.Wire Go.Proofs.YtnmjelcicbfjdaaDoor.PCo Go.Proofs.YtnmjelcicbfjdaaDoor.Co
set_option linter.unusedVariables false
set_option linter.unusedSimpArgs false
set_option maxRecDepth 100000
set_option maxHeartbeats 16000000 in
theorem edges_calls (x y : Int) (a b : ByteArray) (w : World) (hU : UtfW w) (hx : -2147483648 ≤ x ∧ x < 2147483648) (hy : -2147483648 ≤ y ∧ y < 2147483648) (ha : a.size ≤ 140737488351232) (hb : b.size ≤ 140737488351232) :
    Calls Tryd.prog 4 #[.agg #[.int .i32 x, .int .i32 y], .string a, .string b] w fun e w' => e = .returned (.bool true) ∧ Below w.heap.size w w' := by
  have HAL := Aside0.mk (fun (W : World) (hb : Below w.heap.size w W) => alive_calls W (hU.below hb))
  have HBW := below_alloc (Below.refl w.heap.size w) (.cells #[.int .i32 x, .int .i32 y] 31)
  have HX := heap_alloc_new w (.cells #[.int .i32 x, .int .i32 y] 31)
  have HB := Aside0.mk HBW
  have BX := Aside0.mk HX
  clear HX HBW
  by_cases hla : 100 < a.size
  · have t1 : decide ((100 : Int) < (a.size : Int)) = true := decide_eq_true (by omega)
    have t2 : decide (100 < a.size) = true := decide_eq_true hla
    clear hx hy hla ha hb hU
    go_enter Tryd.func4, Tryd.ntmps4
    go_wp2_with fail
    refine (HAL.out _ HB.out).mono ?_
    rintro e wq ⟨rfl, hq⟩
    have hfin := below_step HB.out hq
    go_wp2_with fail
    go_ret
    exact ⟨rfl, hfin⟩
  have t1 : decide ((100 : Int) < (a.size : Int)) = false := decide_eq_false (by omega)
  have t2 : decide (100 < a.size) = false := decide_eq_false hla
  by_cases hlb : 100 < b.size
  · have t3 : decide ((100 : Int) < (b.size : Int)) = true := decide_eq_true (by omega)
    have t4 : decide (100 < b.size) = true := decide_eq_true hlb
    clear hx hy hla hlb ha hb hU
    go_enter Tryd.func4, Tryd.ntmps4
    go_wp2_with fail
    refine (HAL.out _ HB.out).mono ?_
    rintro e wq ⟨rfl, hq⟩
    have hfin := below_step HB.out hq
    go_wp2_with fail
    go_ret
    exact ⟨rfl, hfin⟩
  have t3 : decide ((100 : Int) < (b.size : Int)) = false := decide_eq_false (by omega)
  have t4 : decide (100 < b.size) = false := decide_eq_false hlb
  have HC0 := Aside0.mk (fun (W : World) (hb : Below w.heap.size w W) => compare_calls 0 (IntKind.u64.wrap x) (IntKind.u64.wrap y) e0 e0 W (wrap_rng hx) (wrap_rng hy) (by decide) (by decide) (hU.below hb))
  have HC5 := Aside0.mk (fun (W : World) (hb : Below w.heap.size w W) => compare_calls 5 (fx x : Int) (fx y : Int) e0 e0 W ⟨by omega, by have := fx_lt hx; omega⟩ ⟨by omega, by have := fx_lt hy; omega⟩ (by decide) (by decide) (hU.below hb))
  have HC3 := Aside0.mk (fun (W : World) (hb : Below w.heap.size w W) => compare_calls 3 0 0 a (a ++ b) W (by decide) (by decide) (by omega) (by rw [ByteArray.size_append]; omega) (hU.below hb))
  rw [cmpi_0 hx hy] at HC0
  rw [cmpi_fx hx hy] at HC5
  rw [cmpv_text (by omega) (by omega)] at HC3
  have cx : floatOfInt .f64 x = fx x := rfl
  have cy : floatOfInt .f64 y = fx y := rfl
  have wx : wrap64 x = x := w64 (by omega) (by omega)
  have wy : wrap64 y = y := w64 (by omega) (by omega)
  obtain ⟨X, hX⟩ : ∃ X : Nat, fx x = X := ⟨_, rfl⟩
  obtain ⟨Y, hY⟩ : ∃ Y : Nat, fx y = Y := ⟨_, rfl⟩
  rw [hX] at HC5 cx
  rw [hY] at HC5 cy
  have hadd : Op.stringOp .add a b = pure (.string (a ++ b)) := by
    have h : ¬ (((a.size + b.size : Nat) : Int) > IntKind.i64.max) := by rw [show IntKind.i64.max = 9223372036854775807 from rfl]; omega
    exact if_neg h
  have HLB := Aside0.mk hlb
  have HLA := Aside0.mk hla
  have WX := Aside0.mk wx
  have WY := Aside0.mk wy
  have CX := Aside0.mk cx
  have CY := Aside0.mk cy
  clear hx hy ha hb hU hX hY hla hlb wx wy cx cy
  go_enter Tryd.func4, Tryd.ntmps4
  go_wp2_with fail
  replace HB := Aside0.mk (show Below w.heap.size w ((w.alloc (.cells #[.int .i32 x, .int .i32 y] 31)).drew) from below_drew1 HB.out)
  replace BX := Aside0.mk (show ((w.alloc (.cells #[.int .i32 x, .int .i32 y] 31)).drew).heap[w.heap.size]? = _ from BX.out)
  refine start_ (n := 8) (S := fun w' => w'.cell? ⟨w.heap.size, 0, none⟩ = some (.int .i32 x) ∧ w'.cell? ⟨w.heap.size, 1, none⟩ = some (.int .i32 y)) (ds := []) #[false, false, false, false, false, false, false, false] (by kernel_rfl) rfl rfl ⟨(blk_cell BX.out 0).trans rfl, (blk_cell BX.out 1).trans rfl⟩ (fun hHeld => ?_)
  obtain ⟨U0, hU0⟩ : ∃ U0, (w.alloc (.cells #[.int .i32 x, .int .i32 y] 31)).drew = U0 := ⟨_, rfl⟩
  rw [hU0] at HB BX hHeld ⊢
  clear hU0
  refine take_ (i := 0) (N := some 20) (v := ?_) (a' := ?_) #[true, false, false, false, false, false, false, false] rfl rfl (take_of rfl (by kernel_rfl)) (fun _ _ _ h => h) (Or.inl ⟨by rfl, ?_⟩) hHeld ?_ ?_
  rotate_left
  · rintro w' ⟨s0, s1⟩
    go_simp
    with_reducible rfl
  rotate_left
  · simp only [Act.put, List.setIfInBounds_toArray, List.set_cons_zero, List.set_cons_succ, i64_w, i32_w]
    rfl
  refine take_ (i := 3) (N := some 23) (v := ?_) (a' := ?_) #[true, false, false, true, false, false, false, false] rfl rfl (take_of rfl (by kernel_rfl)) (fun _ _ _ h => h) (Or.inl ⟨by rfl, ?_⟩) hHeld ?_ ?_
  rotate_left
  · rintro w' ⟨s0, s1⟩
    go_simp
    with_reducible rfl
  rotate_left
  · simp only [Act.put, List.setIfInBounds_toArray, List.set_cons_zero, List.set_cons_succ, i64_w, i32_w]
    rfl
  refine take_ (i := 1) (N := some 21) (v := ?_) (a' := ?_) #[true, true, false, true, false, false, false, false] rfl rfl (take_of rfl (by kernel_rfl)) (fun _ _ _ h => h) (Or.inl ⟨by rfl, ?_⟩) hHeld ?_ ?_
  rotate_left
  · rintro w' ⟨s0, s1⟩
    go_simp
    with_reducible rfl
  rotate_left
  · simp only [Act.put, List.setIfInBounds_toArray, List.set_cons_zero, List.set_cons_succ, i64_w, i32_w]
    rfl
  refine take_ (i := 4) (N := some 24) (v := ?_) (a' := ?_) #[true, true, false, true, true, false, false, false] rfl rfl (take_of rfl (by kernel_rfl)) (fun _ _ _ h => h) (Or.inl ⟨by rfl, ?_⟩) hHeld ?_ ?_
  rotate_left
  · rintro w' ⟨s0, s1⟩
    go_simp
    with_reducible rfl
  rotate_left
  · simp only [Act.put, List.setIfInBounds_toArray, List.set_cons_zero, List.set_cons_succ, i64_w, i32_w]
    rfl
  refine pure_ (i := 2) (N := some 22) (v := ?_) (a' := ?_) #[true, true, true, true, true, false, false, false] rfl rfl (any_of rfl (by kernel_rfl)) (fun _ _ _ h => h) (Or.inl ⟨by rfl, ?_⟩) ?_ ?_
  rotate_left
  · intro w'
    go_simp
    with_reducible rfl
  rotate_left
  · simp only [Act.put, List.setIfInBounds_toArray, List.set_cons_zero, List.set_cons_succ, i64_w, i32_w]
    rfl
  refine pure_ (i := 5) (N := some 25) (v := ?_) (a' := ?_) #[true, true, true, true, true, true, false, false] rfl rfl (any_of rfl (by kernel_rfl)) (fun _ _ _ h => h) (Or.inl ⟨by rfl, ?_⟩) ?_ ?_
  rotate_left
  · intro w'
    go_simp
    with_reducible rfl
  rotate_left
  · simp only [Act.put, List.setIfInBounds_toArray, List.set_cons_zero, List.set_cons_succ, i64_w, i32_w]
    rfl
  refine pure_ (i := 6) (N := some 7) (v := ?_) (a' := ?_) #[true, true, true, true, true, true, true, false] rfl rfl (any_of rfl (by kernel_rfl)) (fun _ _ _ h => h) (Or.inl ⟨by rfl, ?_⟩) ?_ ?_
  rotate_left
  · intro w'
    go_simp
    with_reducible rfl
  rotate_left
  · simp only [Act.put, List.setIfInBounds_toArray, List.set_cons_zero, List.set_cons_succ, i64_w, i32_w]
    rfl
  refine pure_ (i := 7) (N := some 8) (v := ?_) (a' := ?_) #[true, true, true, true, true, true, true, true] rfl rfl (any_of rfl (by kernel_rfl)) (fun _ _ _ h => h) (Or.inl ⟨by rfl, ?_⟩) ?_ ?_
  rotate_left
  · intro w'
    go_simp
    with_reducible rfl
  rotate_left
  · simp only [Act.put, List.setIfInBounds_toArray, List.set_cons_zero, List.set_cons_succ, i64_w, i32_w]
    rfl
  refine done_ (done_of rfl (by kernel_rfl)) ?_
  simp only [WX.out, WY.out]
  clear hHeld
  have hcx : ∀ W, (convert 2 34 (.int .i64 x)).run Tryd.prog W = .ok (.float .f64 X) W := fun W => by rw [run_convert_int_float W _ _ .i64 .f64 x (by rw [Tryd.underlying2]; rfl) Tryd.underlying34, CX.out]
  have hcy : ∀ W, (convert 2 34 (.int .i64 y)).run Tryd.prog W = .ok (.float .f64 Y) W := fun W => by rw [run_convert_int_float W _ _ .i64 .f64 y (by rw [Tryd.underlying2]; rfl) Tryd.underlying34, CY.out]
  clear CX CY WX WY BX HLA HLB
  rcases Int.lt_trichotomy x y with h | h | h
  · have e : cmpi x y = -1 := by unfold cmpi; rw [if_pos h]
    have q1 : decide (x < y) = true := decide_eq_true h
    rw [e] at HC0 HC5
    clear h e
    by_cases hz : b.size = 0
    · rw [if_pos hz] at HC3
      have hn : b.toList = [] := by rw [str_toList, ← List.length_eq_zero_iff, data_length]; exact hz
      have s1 : (b.toList != ([] : List UInt8)) = false := by rw [hn]; rfl
      have s2 : (b.toList == ([] : List UInt8)) = true := by rw [hn]; rfl
      have s3 : b.toList.isEmpty = true := by rw [hn]; rfl
      have s4 : (b.toList = []) = True := eq_true hn
      clear hz hn
      go_wp2_with fail
      refine (cell_Int.calls x _ _ _ rfl).mono ?_
      rintro e u1 ⟨rfl, hb⟩
      replace HB := Aside0.mk (below_step HB.out hb)
      clear hb
      go_wp2_with fail
      refine (cell_Int.calls y _ _ _ rfl).mono ?_
      rintro e u2 ⟨rfl, hb⟩
      replace HB := Aside0.mk (below_step HB.out hb)
      clear hb
      go_wp2_with fail
      refine (HC0.out _ HB.out).mono ?_
      rintro e u3 ⟨rfl, hb⟩
      replace HB := Aside0.mk (below_step HB.out hb)
      clear hb
      go_wp2_with fail
      refine (float_calls X _).mono ?_
      rintro e u4 ⟨rfl, hb⟩
      replace HB := Aside0.mk (below_step HB.out hb)
      clear hb
      go_wp2_with fail
      refine (float_calls Y _).mono ?_
      rintro e u5 ⟨rfl, hb⟩
      replace HB := Aside0.mk (below_step HB.out hb)
      clear hb
      go_wp2_with fail
      refine (HC5.out _ HB.out).mono ?_
      rintro e u6 ⟨rfl, hb⟩
      replace HB := Aside0.mk (below_step HB.out hb)
      clear hb
      go_wp2_with fail
      refine (HAL.out _ (below_alloc HB.out _)).mono ?_
      rintro e u7 ⟨rfl, hb⟩
      have BL := Aside0.mk (blk_below (heap_alloc_new u6 (.cells #[.int .u64 0, .string (a ++ b)] 24)) hb)
      replace HB := Aside0.mk (below_step (below_alloc HB.out _) hb)
      clear hb
      have c0 : u7.cell? ⟨u6.heap.size, 0, none⟩ = some (.int .u64 0) := (blk_cell BL.out 0).trans rfl
      have c1 : u7.cell? ⟨u6.heap.size, 1, none⟩ = some (.string (a ++ b)) := (blk_cell BL.out 1).trans rfl
      go_wp2_with fail
      clear c0 c1
      refine (HC3.out _ HB.out).mono ?_
      rintro e u8 ⟨rfl, hb⟩
      replace HB := Aside0.mk (below_step HB.out hb)
      replace BL := Aside0.mk (blk_below BL.out hb)
      clear hb
      have c0 : u8.cell? ⟨u6.heap.size, 0, none⟩ = some (.int .u64 0) := (blk_cell BL.out 0).trans rfl
      have c1 : u8.cell? ⟨u6.heap.size, 1, none⟩ = some (.string (a ++ b)) := (blk_cell BL.out 1).trans rfl
      go_wp2_with fail
      clear c0 c1
      refine (HC3.out _ HB.out).mono ?_
      rintro e u9 ⟨rfl, hb⟩
      have hfin := below_step HB.out hb
      clear hb
      go_wp2_with fail
      go_ret
      exact ⟨rfl, hfin⟩
    · rw [if_neg hz] at HC3
      have s1 : (b.toList != ([] : List UInt8)) = true := bne_iff_ne.mpr (ne_empty hz)
      have s2 : (b.toList == ([] : List UInt8)) = false := beq_eq_false_iff_ne.mpr (ne_empty hz)
      have s3 : b.toList.isEmpty = false := by cases h : b.toList with | nil => exact absurd h (ne_empty hz) | cons => rfl
      have s4 : (b.toList = []) = False := eq_false (ne_empty hz)
      clear hz
      go_wp2_with fail
      refine (cell_Int.calls x _ _ _ rfl).mono ?_
      rintro e u1 ⟨rfl, hb⟩
      replace HB := Aside0.mk (below_step HB.out hb)
      clear hb
      go_wp2_with fail
      refine (cell_Int.calls y _ _ _ rfl).mono ?_
      rintro e u2 ⟨rfl, hb⟩
      replace HB := Aside0.mk (below_step HB.out hb)
      clear hb
      go_wp2_with fail
      refine (HC0.out _ HB.out).mono ?_
      rintro e u3 ⟨rfl, hb⟩
      replace HB := Aside0.mk (below_step HB.out hb)
      clear hb
      go_wp2_with fail
      refine (float_calls X _).mono ?_
      rintro e u4 ⟨rfl, hb⟩
      replace HB := Aside0.mk (below_step HB.out hb)
      clear hb
      go_wp2_with fail
      refine (float_calls Y _).mono ?_
      rintro e u5 ⟨rfl, hb⟩
      replace HB := Aside0.mk (below_step HB.out hb)
      clear hb
      go_wp2_with fail
      refine (HC5.out _ HB.out).mono ?_
      rintro e u6 ⟨rfl, hb⟩
      replace HB := Aside0.mk (below_step HB.out hb)
      clear hb
      go_wp2_with fail
      refine (HAL.out _ (below_alloc HB.out _)).mono ?_
      rintro e u7 ⟨rfl, hb⟩
      have BL := Aside0.mk (blk_below (heap_alloc_new u6 (.cells #[.int .u64 0, .string (a ++ b)] 24)) hb)
      replace HB := Aside0.mk (below_step (below_alloc HB.out _) hb)
      clear hb
      have c0 : u7.cell? ⟨u6.heap.size, 0, none⟩ = some (.int .u64 0) := (blk_cell BL.out 0).trans rfl
      have c1 : u7.cell? ⟨u6.heap.size, 1, none⟩ = some (.string (a ++ b)) := (blk_cell BL.out 1).trans rfl
      go_wp2_with fail
      clear c0 c1
      refine (HC3.out _ HB.out).mono ?_
      rintro e u8 ⟨rfl, hb⟩
      replace HB := Aside0.mk (below_step HB.out hb)
      replace BL := Aside0.mk (blk_below BL.out hb)
      clear hb
      have c0 : u8.cell? ⟨u6.heap.size, 0, none⟩ = some (.int .u64 0) := (blk_cell BL.out 0).trans rfl
      have c1 : u8.cell? ⟨u6.heap.size, 1, none⟩ = some (.string (a ++ b)) := (blk_cell BL.out 1).trans rfl
      go_wp2_with fail
      clear c0 c1
      refine (HC3.out _ HB.out).mono ?_
      rintro e u9 ⟨rfl, hb⟩
      have hfin := below_step HB.out hb
      clear hb
      go_wp2_with fail
      go_ret
      exact ⟨rfl, hfin⟩
  · have e : cmpi x y = 0 := by unfold cmpi; rw [if_neg (by omega), if_neg (by omega)]
    have q1 : decide (x < y) = false := decide_eq_false (by omega)
    have q2 : decide (y < x) = false := decide_eq_false (by omega)
    have q3 : decide (x > y) = false := decide_eq_false (by omega)
    rw [e] at HC0 HC5
    clear h e
    by_cases hz : b.size = 0
    · rw [if_pos hz] at HC3
      have hn : b.toList = [] := by rw [str_toList, ← List.length_eq_zero_iff, data_length]; exact hz
      have s1 : (b.toList != ([] : List UInt8)) = false := by rw [hn]; rfl
      have s2 : (b.toList == ([] : List UInt8)) = true := by rw [hn]; rfl
      have s3 : b.toList.isEmpty = true := by rw [hn]; rfl
      have s4 : (b.toList = []) = True := eq_true hn
      clear hz hn
      go_wp2_with fail
      refine (cell_Int.calls x _ _ _ rfl).mono ?_
      rintro e u1 ⟨rfl, hb⟩
      replace HB := Aside0.mk (below_step HB.out hb)
      clear hb
      go_wp2_with fail
      refine (cell_Int.calls y _ _ _ rfl).mono ?_
      rintro e u2 ⟨rfl, hb⟩
      replace HB := Aside0.mk (below_step HB.out hb)
      clear hb
      go_wp2_with fail
      refine (HC0.out _ HB.out).mono ?_
      rintro e u3 ⟨rfl, hb⟩
      replace HB := Aside0.mk (below_step HB.out hb)
      clear hb
      go_wp2_with fail
      refine (float_calls X _).mono ?_
      rintro e u4 ⟨rfl, hb⟩
      replace HB := Aside0.mk (below_step HB.out hb)
      clear hb
      go_wp2_with fail
      refine (float_calls Y _).mono ?_
      rintro e u5 ⟨rfl, hb⟩
      replace HB := Aside0.mk (below_step HB.out hb)
      clear hb
      go_wp2_with fail
      refine (HC5.out _ HB.out).mono ?_
      rintro e u6 ⟨rfl, hb⟩
      replace HB := Aside0.mk (below_step HB.out hb)
      clear hb
      go_wp2_with fail
      refine (HAL.out _ (below_alloc HB.out _)).mono ?_
      rintro e u7 ⟨rfl, hb⟩
      have BL := Aside0.mk (blk_below (heap_alloc_new u6 (.cells #[.int .u64 0, .string (a ++ b)] 24)) hb)
      replace HB := Aside0.mk (below_step (below_alloc HB.out _) hb)
      clear hb
      have c0 : u7.cell? ⟨u6.heap.size, 0, none⟩ = some (.int .u64 0) := (blk_cell BL.out 0).trans rfl
      have c1 : u7.cell? ⟨u6.heap.size, 1, none⟩ = some (.string (a ++ b)) := (blk_cell BL.out 1).trans rfl
      go_wp2_with fail
      clear c0 c1
      refine (HC3.out _ HB.out).mono ?_
      rintro e u8 ⟨rfl, hb⟩
      replace HB := Aside0.mk (below_step HB.out hb)
      replace BL := Aside0.mk (blk_below BL.out hb)
      clear hb
      have c0 : u8.cell? ⟨u6.heap.size, 0, none⟩ = some (.int .u64 0) := (blk_cell BL.out 0).trans rfl
      have c1 : u8.cell? ⟨u6.heap.size, 1, none⟩ = some (.string (a ++ b)) := (blk_cell BL.out 1).trans rfl
      go_wp2_with fail
      clear c0 c1
      refine (HC3.out _ HB.out).mono ?_
      rintro e u9 ⟨rfl, hb⟩
      have hfin := below_step HB.out hb
      clear hb
      go_wp2_with fail
      go_ret
      exact ⟨rfl, hfin⟩
    · rw [if_neg hz] at HC3
      have s1 : (b.toList != ([] : List UInt8)) = true := bne_iff_ne.mpr (ne_empty hz)
      have s2 : (b.toList == ([] : List UInt8)) = false := beq_eq_false_iff_ne.mpr (ne_empty hz)
      have s3 : b.toList.isEmpty = false := by cases h : b.toList with | nil => exact absurd h (ne_empty hz) | cons => rfl
      have s4 : (b.toList = []) = False := eq_false (ne_empty hz)
      clear hz
      go_wp2_with fail
      refine (cell_Int.calls x _ _ _ rfl).mono ?_
      rintro e u1 ⟨rfl, hb⟩
      replace HB := Aside0.mk (below_step HB.out hb)
      clear hb
      go_wp2_with fail
      refine (cell_Int.calls y _ _ _ rfl).mono ?_
      rintro e u2 ⟨rfl, hb⟩
      replace HB := Aside0.mk (below_step HB.out hb)
      clear hb
      go_wp2_with fail
      refine (HC0.out _ HB.out).mono ?_
      rintro e u3 ⟨rfl, hb⟩
      replace HB := Aside0.mk (below_step HB.out hb)
      clear hb
      go_wp2_with fail
      refine (float_calls X _).mono ?_
      rintro e u4 ⟨rfl, hb⟩
      replace HB := Aside0.mk (below_step HB.out hb)
      clear hb
      go_wp2_with fail
      refine (float_calls Y _).mono ?_
      rintro e u5 ⟨rfl, hb⟩
      replace HB := Aside0.mk (below_step HB.out hb)
      clear hb
      go_wp2_with fail
      refine (HC5.out _ HB.out).mono ?_
      rintro e u6 ⟨rfl, hb⟩
      replace HB := Aside0.mk (below_step HB.out hb)
      clear hb
      go_wp2_with fail
      refine (HAL.out _ (below_alloc HB.out _)).mono ?_
      rintro e u7 ⟨rfl, hb⟩
      have BL := Aside0.mk (blk_below (heap_alloc_new u6 (.cells #[.int .u64 0, .string (a ++ b)] 24)) hb)
      replace HB := Aside0.mk (below_step (below_alloc HB.out _) hb)
      clear hb
      have c0 : u7.cell? ⟨u6.heap.size, 0, none⟩ = some (.int .u64 0) := (blk_cell BL.out 0).trans rfl
      have c1 : u7.cell? ⟨u6.heap.size, 1, none⟩ = some (.string (a ++ b)) := (blk_cell BL.out 1).trans rfl
      go_wp2_with fail
      clear c0 c1
      refine (HC3.out _ HB.out).mono ?_
      rintro e u8 ⟨rfl, hb⟩
      replace HB := Aside0.mk (below_step HB.out hb)
      replace BL := Aside0.mk (blk_below BL.out hb)
      clear hb
      have c0 : u8.cell? ⟨u6.heap.size, 0, none⟩ = some (.int .u64 0) := (blk_cell BL.out 0).trans rfl
      have c1 : u8.cell? ⟨u6.heap.size, 1, none⟩ = some (.string (a ++ b)) := (blk_cell BL.out 1).trans rfl
      go_wp2_with fail
      clear c0 c1
      refine (HC3.out _ HB.out).mono ?_
      rintro e u9 ⟨rfl, hb⟩
      have hfin := below_step HB.out hb
      clear hb
      go_wp2_with fail
      go_ret
      exact ⟨rfl, hfin⟩
  · have e : cmpi x y = 1 := by unfold cmpi; rw [if_neg (by omega), if_pos h]
    have q1 : decide (x < y) = false := decide_eq_false (by omega)
    have q2 : decide (y < x) = true := decide_eq_true h
    have q3 : decide (x > y) = true := decide_eq_true h
    rw [e] at HC0 HC5
    clear h e
    by_cases hz : b.size = 0
    · rw [if_pos hz] at HC3
      have hn : b.toList = [] := by rw [str_toList, ← List.length_eq_zero_iff, data_length]; exact hz
      have s1 : (b.toList != ([] : List UInt8)) = false := by rw [hn]; rfl
      have s2 : (b.toList == ([] : List UInt8)) = true := by rw [hn]; rfl
      have s3 : b.toList.isEmpty = true := by rw [hn]; rfl
      have s4 : (b.toList = []) = True := eq_true hn
      clear hz hn
      go_wp2_with fail
      refine (cell_Int.calls x _ _ _ rfl).mono ?_
      rintro e u1 ⟨rfl, hb⟩
      replace HB := Aside0.mk (below_step HB.out hb)
      clear hb
      go_wp2_with fail
      refine (cell_Int.calls y _ _ _ rfl).mono ?_
      rintro e u2 ⟨rfl, hb⟩
      replace HB := Aside0.mk (below_step HB.out hb)
      clear hb
      go_wp2_with fail
      refine (HC0.out _ HB.out).mono ?_
      rintro e u3 ⟨rfl, hb⟩
      replace HB := Aside0.mk (below_step HB.out hb)
      clear hb
      go_wp2_with fail
      refine (float_calls X _).mono ?_
      rintro e u4 ⟨rfl, hb⟩
      replace HB := Aside0.mk (below_step HB.out hb)
      clear hb
      go_wp2_with fail
      refine (float_calls Y _).mono ?_
      rintro e u5 ⟨rfl, hb⟩
      replace HB := Aside0.mk (below_step HB.out hb)
      clear hb
      go_wp2_with fail
      refine (HC5.out _ HB.out).mono ?_
      rintro e u6 ⟨rfl, hb⟩
      replace HB := Aside0.mk (below_step HB.out hb)
      clear hb
      go_wp2_with fail
      refine (HAL.out _ (below_alloc HB.out _)).mono ?_
      rintro e u7 ⟨rfl, hb⟩
      have BL := Aside0.mk (blk_below (heap_alloc_new u6 (.cells #[.int .u64 0, .string (a ++ b)] 24)) hb)
      replace HB := Aside0.mk (below_step (below_alloc HB.out _) hb)
      clear hb
      have c0 : u7.cell? ⟨u6.heap.size, 0, none⟩ = some (.int .u64 0) := (blk_cell BL.out 0).trans rfl
      have c1 : u7.cell? ⟨u6.heap.size, 1, none⟩ = some (.string (a ++ b)) := (blk_cell BL.out 1).trans rfl
      go_wp2_with fail
      clear c0 c1
      refine (HC3.out _ HB.out).mono ?_
      rintro e u8 ⟨rfl, hb⟩
      replace HB := Aside0.mk (below_step HB.out hb)
      replace BL := Aside0.mk (blk_below BL.out hb)
      clear hb
      have c0 : u8.cell? ⟨u6.heap.size, 0, none⟩ = some (.int .u64 0) := (blk_cell BL.out 0).trans rfl
      have c1 : u8.cell? ⟨u6.heap.size, 1, none⟩ = some (.string (a ++ b)) := (blk_cell BL.out 1).trans rfl
      go_wp2_with fail
      clear c0 c1
      refine (HC3.out _ HB.out).mono ?_
      rintro e u9 ⟨rfl, hb⟩
      have hfin := below_step HB.out hb
      clear hb
      go_wp2_with fail
      go_ret
      exact ⟨rfl, hfin⟩
    · rw [if_neg hz] at HC3
      have s1 : (b.toList != ([] : List UInt8)) = true := bne_iff_ne.mpr (ne_empty hz)
      have s2 : (b.toList == ([] : List UInt8)) = false := beq_eq_false_iff_ne.mpr (ne_empty hz)
      have s3 : b.toList.isEmpty = false := by cases h : b.toList with | nil => exact absurd h (ne_empty hz) | cons => rfl
      have s4 : (b.toList = []) = False := eq_false (ne_empty hz)
      clear hz
      go_wp2_with fail
      refine (cell_Int.calls x _ _ _ rfl).mono ?_
      rintro e u1 ⟨rfl, hb⟩
      replace HB := Aside0.mk (below_step HB.out hb)
      clear hb
      go_wp2_with fail
      refine (cell_Int.calls y _ _ _ rfl).mono ?_
      rintro e u2 ⟨rfl, hb⟩
      replace HB := Aside0.mk (below_step HB.out hb)
      clear hb
      go_wp2_with fail
      refine (HC0.out _ HB.out).mono ?_
      rintro e u3 ⟨rfl, hb⟩
      replace HB := Aside0.mk (below_step HB.out hb)
      clear hb
      go_wp2_with fail
      refine (float_calls X _).mono ?_
      rintro e u4 ⟨rfl, hb⟩
      replace HB := Aside0.mk (below_step HB.out hb)
      clear hb
      go_wp2_with fail
      refine (float_calls Y _).mono ?_
      rintro e u5 ⟨rfl, hb⟩
      replace HB := Aside0.mk (below_step HB.out hb)
      clear hb
      go_wp2_with fail
      refine (HC5.out _ HB.out).mono ?_
      rintro e u6 ⟨rfl, hb⟩
      replace HB := Aside0.mk (below_step HB.out hb)
      clear hb
      go_wp2_with fail
      refine (HAL.out _ (below_alloc HB.out _)).mono ?_
      rintro e u7 ⟨rfl, hb⟩
      have BL := Aside0.mk (blk_below (heap_alloc_new u6 (.cells #[.int .u64 0, .string (a ++ b)] 24)) hb)
      replace HB := Aside0.mk (below_step (below_alloc HB.out _) hb)
      clear hb
      have c0 : u7.cell? ⟨u6.heap.size, 0, none⟩ = some (.int .u64 0) := (blk_cell BL.out 0).trans rfl
      have c1 : u7.cell? ⟨u6.heap.size, 1, none⟩ = some (.string (a ++ b)) := (blk_cell BL.out 1).trans rfl
      go_wp2_with fail
      clear c0 c1
      refine (HC3.out _ HB.out).mono ?_
      rintro e u8 ⟨rfl, hb⟩
      replace HB := Aside0.mk (below_step HB.out hb)
      replace BL := Aside0.mk (blk_below BL.out hb)
      clear hb
      have c0 : u8.cell? ⟨u6.heap.size, 0, none⟩ = some (.int .u64 0) := (blk_cell BL.out 0).trans rfl
      have c1 : u8.cell? ⟨u6.heap.size, 1, none⟩ = some (.string (a ++ b)) := (blk_cell BL.out 1).trans rfl
      go_wp2_with fail
      clear c0 c1
      refine (HC3.out _ HB.out).mono ?_
      rintro e u9 ⟨rfl, hb⟩
      have hfin := below_step HB.out hb
      clear hb
      go_wp2_with fail
      go_ret
      exact ⟨rfl, hfin⟩
theorem wf_i32 {a : Int} (h : (Lit.int .i32 a).wf = true) : -2147483648 ≤ a ∧ a < 2147483648 := by
  simp only [Lit.wf, IntKind.min, IntKind.max, IntKind.signed, IntKind.bits, Bool.and_eq_true, decide_eq_true_eq] at h
  simp at h
  omega
end Go.Proofs.YtnmjelcicbfjdaaDoor.Ce
