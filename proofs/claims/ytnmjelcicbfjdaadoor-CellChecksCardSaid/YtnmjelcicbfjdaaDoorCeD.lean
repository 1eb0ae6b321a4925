import Derived.Test.YtnmjelcicbfjdaaDoorCeG
import Derived.Test.YtnmjelcicbfjdaaDoorSpC
/-! CellChecks: the document's ahead and Compare, walked. -/
namespace Go.Proofs.YtnmjelcicbfjdaaDoor.Ce
open Go.RowKit Go.Proofs.YtnmjelcicbfjdaaDoorW.PrintWords Go.Proofs.YtnmjelcicbfjdaaDoorW.PrintLast Go.Proofs.YtnmjelcicbfjdaaDoorW.PrintMore Go.Proofs.YtnmjelcicbfjdaaDoor.Wire Go.Proofs.YtnmjelcicbfjdaaDoor.PCo Go.Proofs.YtnmjelcicbfjdaaDoor.Co
set_option linter.unusedVariables false
set_option linter.unusedSimpArgs false
set_option maxRecDepth 100000
set_option maxHeartbeats 16000000 in
theorem ahead_calls (k : Int) (x y : Nat) (s t : ByteArray) (hx : x < 18446744073709551616) (hy : y < 18446744073709551616) (w : World) :
    Calls Tryd.prog 53 #[.int .i64 k, .agg #[.int .u64 (x : Int), .string s], .agg #[.int .u64 (y : Int), .string t]] w fun e w' => e = .returned (.bool (ahd k x s y t)) ∧ Below w.heap.size w w' := by
  by_cases h0 : k = 0
  · subst h0
    rw [show ahd 0 x s y t = decide (wrap64 (x : Int) < wrap64 (y : Int)) from if_pos rfl]
    clear hx hy
    have hbw := below_alloc (below_alloc (Below.refl w.heap.size w) (.cells #[.int .u64 (x : Int), .string s] 24)) (.cells #[.int .u64 (y : Int), .string t] 24)
    have HBW := Aside0.mk hbw
    clear hbw
    go_enter Tryd.func53, Tryd.ntmps53
    go_wp2
    go_ret
    exact ⟨by first | rfl | (simp; done) | (simp [i64_w]; done), HBW.out⟩
  have u0 : (k == 0) = false := by simpa using h0
  by_cases h3 : k = 3
  · subst h3
    rw [show ahd 3 x s y t = Op.bytesLess s.toList t.toList from by unfold ahd; simp]
    clear hx hy h0 u0
    have hbw := below_alloc (below_alloc (Below.refl w.heap.size w) (.cells #[.int .u64 (x : Int), .string s] 24)) (.cells #[.int .u64 (y : Int), .string t] 24)
    have HBW := Aside0.mk hbw
    clear hbw
    go_enter Tryd.func53, Tryd.ntmps53
    go_wp2
    go_ret
    exact ⟨by first | rfl | (simp; done) | (simp [i64_w]; done), HBW.out⟩
  have u3 : (k == 3) = false := by simpa using h3
  by_cases h4 : k = 4
  · subst h4
    rw [show ahd 4 x s y t = Op.bytesLess s.toList t.toList from by unfold ahd; simp]
    clear hx hy h0 u0 h3 u3
    have hbw := below_alloc (below_alloc (Below.refl w.heap.size w) (.cells #[.int .u64 (x : Int), .string s] 24)) (.cells #[.int .u64 (y : Int), .string t] 24)
    have HBW := Aside0.mk hbw
    clear hbw
    go_enter Tryd.func53, Tryd.ntmps53
    go_wp2
    go_ret
    exact ⟨by first | rfl | (simp; done) | (simp [i64_w]; done), HBW.out⟩
  have u4 : (k == 4) = false := by simpa using h4
  by_cases h5 : k = 5
  · subst h5
    rw [show ahd 5 x s y t = ahd5 x y from by unfold ahd; simp]
    have HP := Aside0.mk (fun W => place_calls x hx W)
    have HQ := Aside0.mk (fun W => place_calls y hy W)
    have b1 : ∀ w, (callFunc 17 #[.int .u64 (x : Int)]).run Tryd.prog w = .ok (.value (.float .f64 x)) w := fun w => frombits_run (x : Int) w
    have b2 : ∀ w, (callFunc 17 #[.int .u64 (y : Int)]).run Tryd.prog w = .ok (.value (.float .f64 y)) w := fun w => frombits_run (y : Int) w
    clear hx hy h0 h3 h4 u0 u3 u4
    have hbw := below_alloc (below_alloc (Below.refl w.heap.size w) (.cells #[.int .u64 (x : Int), .string s] 24)) (.cells #[.int .u64 (y : Int), .string t] 24)
    have HBW := Aside0.mk hbw
    clear hbw
    obtain ⟨r, hr⟩ : ∃ r, ahd5 x y = r := ⟨_, rfl⟩
    rw [hr]
    unfold ahd5 at hr
    rcases pl_cases x with hp | hp | hp <;> rw [hp] at HP hr
    · rcases pl_cases y with hq | hq | hq <;> rw [hq] at HQ hr
      · clear hp hq
        rw [if_neg (by simp), if_pos rfl] at hr
        subst hr
        go_enter Tryd.func53, Tryd.ntmps53
        go_wp2_with fail
        refine (HP.out _).mono ?_
        rintro e w1 ⟨rfl, rfl⟩
        go_wp2_with fail
        refine (HQ.out _).mono ?_
        rintro e w1 ⟨rfl, rfl⟩
        go_wp2
        go_ret
        exact ⟨by first | rfl | (simp; done) | (simp [i64_w]; done), HBW.out⟩
      · clear hp hq
        rw [if_pos (by decide)] at hr
        have hr' : r = true := by rw [← hr]; decide
        subst hr'
        clear hr
        go_enter Tryd.func53, Tryd.ntmps53
        go_wp2_with fail
        refine (HP.out _).mono ?_
        rintro e w1 ⟨rfl, rfl⟩
        go_wp2_with fail
        refine (HQ.out _).mono ?_
        rintro e w1 ⟨rfl, rfl⟩
        go_wp2
        go_ret
        exact ⟨by first | rfl | (simp; done) | (simp [i64_w]; done), HBW.out⟩
      · clear hp hq
        rw [if_pos (by decide)] at hr
        have hr' : r = true := by rw [← hr]; decide
        subst hr'
        clear hr
        go_enter Tryd.func53, Tryd.ntmps53
        go_wp2_with fail
        refine (HP.out _).mono ?_
        rintro e w1 ⟨rfl, rfl⟩
        go_wp2_with fail
        refine (HQ.out _).mono ?_
        rintro e w1 ⟨rfl, rfl⟩
        go_wp2
        go_ret
        exact ⟨by first | rfl | (simp; done) | (simp [i64_w]; done), HBW.out⟩
    · rcases pl_cases y with hq | hq | hq <;> rw [hq] at HQ hr
      · clear hp hq
        rw [if_pos (by decide)] at hr
        have hr' : r = false := by rw [← hr]; decide
        subst hr'
        clear hr
        go_enter Tryd.func53, Tryd.ntmps53
        go_wp2_with fail
        refine (HP.out _).mono ?_
        rintro e w1 ⟨rfl, rfl⟩
        go_wp2_with fail
        refine (HQ.out _).mono ?_
        rintro e w1 ⟨rfl, rfl⟩
        go_wp2
        go_ret
        exact ⟨by first | rfl | (simp; done) | (simp [i64_w]; done), HBW.out⟩
      · clear hp hq
        rw [if_neg (by simp), if_neg (by decide), if_neg (by decide)] at hr
        cases z1 : EQ x 0
        · rw [if_neg (by rw [z1]; simp)] at hr
          subst hr
          have z3 : (FloatKind.f64.format.order x 0 == some .eq) = false := z1
          clear z1
          go_enter Tryd.func53, Tryd.ntmps53
          go_wp2_with fail
          refine (HP.out _).mono ?_
          rintro e w1 ⟨rfl, rfl⟩
          go_wp2_with fail
          refine (HQ.out _).mono ?_
          rintro e w1 ⟨rfl, rfl⟩
          go_wp2
          go_ret
          exact ⟨by first | rfl | (simp; done) | (simp [i64_w]; done), HBW.out⟩
        · cases z2 : EQ y 0
          · rw [if_neg (by rw [z2]; simp)] at hr
            subst hr
            have z3 : (FloatKind.f64.format.order x 0 == some .eq) = true := z1
            have z4 : (FloatKind.f64.format.order y 0 == some .eq) = false := z2
            clear z1 z2
            go_enter Tryd.func53, Tryd.ntmps53
            go_wp2_with fail
            refine (HP.out _).mono ?_
            rintro e w1 ⟨rfl, rfl⟩
            go_wp2_with fail
            refine (HQ.out _).mono ?_
            rintro e w1 ⟨rfl, rfl⟩
            go_wp2
            go_ret
            exact ⟨by first | rfl | (simp; done) | (simp [i64_w]; done), HBW.out⟩
          · rw [if_pos ⟨z1, z2⟩] at hr
            subst hr
            have z3 : (FloatKind.f64.format.order x 0 == some .eq) = true := z1
            have z4 : (FloatKind.f64.format.order y 0 == some .eq) = true := z2
            clear z1 z2
            go_enter Tryd.func53, Tryd.ntmps53
            go_wp2_with fail
            refine (HP.out _).mono ?_
            rintro e w1 ⟨rfl, rfl⟩
            go_wp2_with fail
            refine (HQ.out _).mono ?_
            rintro e w1 ⟨rfl, rfl⟩
            go_wp2
            go_ret
            exact ⟨by first | rfl | (simp; done) | (simp [i64_w]; done), HBW.out⟩
      · clear hp hq
        rw [if_pos (by decide)] at hr
        have hr' : r = true := by rw [← hr]; decide
        subst hr'
        clear hr
        go_enter Tryd.func53, Tryd.ntmps53
        go_wp2_with fail
        refine (HP.out _).mono ?_
        rintro e w1 ⟨rfl, rfl⟩
        go_wp2_with fail
        refine (HQ.out _).mono ?_
        rintro e w1 ⟨rfl, rfl⟩
        go_wp2
        go_ret
        exact ⟨by first | rfl | (simp; done) | (simp [i64_w]; done), HBW.out⟩
    · rcases pl_cases y with hq | hq | hq <;> rw [hq] at HQ hr
      · clear hp hq
        rw [if_pos (by decide)] at hr
        have hr' : r = false := by rw [← hr]; decide
        subst hr'
        clear hr
        go_enter Tryd.func53, Tryd.ntmps53
        go_wp2_with fail
        refine (HP.out _).mono ?_
        rintro e w1 ⟨rfl, rfl⟩
        go_wp2_with fail
        refine (HQ.out _).mono ?_
        rintro e w1 ⟨rfl, rfl⟩
        go_wp2
        go_ret
        exact ⟨by first | rfl | (simp; done) | (simp [i64_w]; done), HBW.out⟩
      · clear hp hq
        rw [if_pos (by decide)] at hr
        have hr' : r = false := by rw [← hr]; decide
        subst hr'
        clear hr
        go_enter Tryd.func53, Tryd.ntmps53
        go_wp2_with fail
        refine (HP.out _).mono ?_
        rintro e w1 ⟨rfl, rfl⟩
        go_wp2_with fail
        refine (HQ.out _).mono ?_
        rintro e w1 ⟨rfl, rfl⟩
        go_wp2
        go_ret
        exact ⟨by first | rfl | (simp; done) | (simp [i64_w]; done), HBW.out⟩
      · clear hp hq
        rw [if_neg (by simp), if_neg (by decide), if_pos rfl] at hr
        subst hr
        go_enter Tryd.func53, Tryd.ntmps53
        go_wp2_with fail
        refine (HP.out _).mono ?_
        rintro e w1 ⟨rfl, rfl⟩
        go_wp2_with fail
        refine (HQ.out _).mono ?_
        rintro e w1 ⟨rfl, rfl⟩
        go_wp2
        go_ret
        exact ⟨by first | rfl | (simp; done) | (simp [i64_w]; done), HBW.out⟩
  have u5 : (k == 5) = false := by simpa using h5
  rw [show ahd k x s y t = decide ((x : Int) < (y : Int)) from by unfold ahd; simp [h0, h3, h4, h5]]
  clear hx hy h0 h3 h4 h5
  have hbw := below_alloc (below_alloc (Below.refl w.heap.size w) (.cells #[.int .u64 (x : Int), .string s] 24)) (.cells #[.int .u64 (y : Int), .string t] 24)
  have HBW := Aside0.mk hbw
  clear hbw
  go_enter Tryd.func53, Tryd.ntmps53
  go_wp2
  go_ret
  exact ⟨by first | rfl | (simp; done) | (simp [i64_w]; done), HBW.out⟩

set_option maxHeartbeats 16000000 in
theorem refcmp_calls (k : Int) (x y : Nat) (s t : ByteArray) (w : World) (hx : x < 18446744073709551616) (hy : y < 18446744073709551616) (hs : s.size ≤ 2305843009213693952) (ht : t.size ≤ 2305843009213693952) :
    Calls Tryd.prog 24 #[.int .i64 k, .agg #[.int .u64 (x : Int), .string s], .agg #[.int .u64 (y : Int), .string t]] w fun e w' => e = .returned (.int .i64 (cmpv k (x : Int) s (y : Int) t)) ∧ Below w.heap.size w w' := by
  have HC1 := Aside0.mk (fun (W : World) => rcheck_calls k (x : Int) s W hs (by omega))
  have HC2 := Aside0.mk (fun (W : World) => rcheck_calls k (y : Int) t W ht (by omega))
  have HA1 := Aside0.mk (fun (W : World) => ahead_calls k x y s t hx hy W)
  have HA2 := Aside0.mk (fun (W : World) => ahead_calls k y x t s hy hx W)
  have HL := Aside0.mk (fun c1 c2 => ahd_law (k := k) (x := x) (y := y) (s := s) (t := t) hx hy c1 c2)
  have HL2 := Aside0.mk (fun c1 c2 => ahd_law (k := k) (x := y) (y := x) (s := t) (t := s) hy hx c1 c2)
  obtain ⟨r, hr⟩ : ∃ r, cmpv k (x : Int) s (y : Int) t = r := ⟨_, rfl⟩
  rw [hr]
  unfold cmpv at hr
  have HR := Aside0.mk hr
  have hbw := below_alloc (below_alloc (Below.refl w.heap.size w) (.cells #[.int .u64 (x : Int), .string s] 24)) (.cells #[.int .u64 (y : Int), .string t] 24)
  have hx0 : (w.alloc (.cells #[.int .u64 (x : Int), .string s] 24)).alloc (.cells #[.int .u64 (y : Int), .string t] 24) |>.heap[w.heap.size]? = some (.cells #[.int .u64 (x : Int), .string s] 24 (0, 0)) := blk_alloc (heap_alloc_new w _) _
  have hx1 : (w.alloc (.cells #[.int .u64 (x : Int), .string s] 24)).alloc (.cells #[.int .u64 (y : Int), .string t] 24) |>.heap[w.heap.size + 1]? = some (.cells #[.int .u64 (y : Int), .string t] 24 (0, 0)) := by simpa using heap_alloc_new (w.alloc (.cells #[.int .u64 (x : Int), .string s] 24)) (.cells #[.int .u64 (y : Int), .string t] 24)
  have HB := Aside0.mk hbw
  have BX := Aside0.mk hx0
  have BY := Aside0.mk hx1
  clear hr hx hy hs ht hbw hx0 hx1
  go_enter Tryd.func24, Tryd.ntmps24
  go_wp2_with fail
  refine (HC1.out _).mono ?_
  rintro e u1 ⟨rfl, hb⟩
  replace HB := Aside0.mk (below_step HB.out hb)
  replace BX := Aside0.mk (blk_below BX.out hb)
  replace BY := Aside0.mk (blk_below BY.out hb)
  clear hb
  (try clear cx0 cx1 cy0 cy1)
  have cx0 : u1.cell? ⟨w.heap.size, 0, none⟩ = some (.int .u64 (x : Int)) := (blk_cell BX.out 0).trans rfl
  have cx1 : u1.cell? ⟨w.heap.size, 1, none⟩ = some (.string s) := (blk_cell BX.out 1).trans rfl
  have cy0 : u1.cell? ⟨w.heap.size + 1, 0, none⟩ = some (.int .u64 (y : Int)) := (blk_cell BY.out 0).trans rfl
  have cy1 : u1.cell? ⟨w.heap.size + 1, 1, none⟩ = some (.string t) := (blk_cell BY.out 1).trans rfl
  by_cases z1 : chk k (x : Int) s ≠ 0
  · have t1 : (chk k (x : Int) s != 0) = true := bne_iff_ne.mpr z1
    have hr : r = 0 := by rw [← HR.out, if_pos (Or.inl z1)]
    subst hr
    clear z1
    go_wp2
    go_ret
    exact ⟨rfl, HB.out⟩
  have e1 := Decidable.not_not.1 z1
  rw [e1]
  clear z1
  go_wp2_with fail
  refine (HC2.out _).mono ?_
  rintro e u2 ⟨rfl, hb⟩
  replace HB := Aside0.mk (below_step HB.out hb)
  replace BX := Aside0.mk (blk_below BX.out hb)
  replace BY := Aside0.mk (blk_below BY.out hb)
  clear hb
  (try clear cx0 cx1 cy0 cy1)
  have cx0 : u2.cell? ⟨w.heap.size, 0, none⟩ = some (.int .u64 (x : Int)) := (blk_cell BX.out 0).trans rfl
  have cx1 : u2.cell? ⟨w.heap.size, 1, none⟩ = some (.string s) := (blk_cell BX.out 1).trans rfl
  have cy0 : u2.cell? ⟨w.heap.size + 1, 0, none⟩ = some (.int .u64 (y : Int)) := (blk_cell BY.out 0).trans rfl
  have cy1 : u2.cell? ⟨w.heap.size + 1, 1, none⟩ = some (.string t) := (blk_cell BY.out 1).trans rfl
  by_cases z2 : chk k (y : Int) t ≠ 0
  · have t1 : (chk k (y : Int) t != 0) = true := bne_iff_ne.mpr z2
    have hr : r = 0 := by rw [← HR.out, if_pos (Or.inr z2)]
    subst hr
    clear z2 e1
    go_wp2
    go_ret
    exact ⟨rfl, HB.out⟩
  have e2 := Decidable.not_not.1 z2
  rw [e2]
  clear z2
  have hr : ord k (x : Int) s (y : Int) t = r := by rw [← HR.out, if_neg (by rw [e1, e2]; simp)]
  have l1 := HL.out e1 e2
  have l2 := HL2.out e2 e1
  have on := ord_neg k (x : Int) s (y : Int) t
  have rg := ord_rng k (x : Int) s (y : Int) t
  rw [hr] at l1 on rg
  have HN := Aside0.mk on
  have HG := Aside0.mk rg
  clear hr on rg e1 e2
  rw [l1] at HA1
  rw [l2] at HA2
  clear l1 l2
  go_wp2_with fail
  refine (HA1.out _).mono ?_
  rintro e u3 ⟨rfl, hb⟩
  replace HB := Aside0.mk (below_step HB.out hb)
  replace BX := Aside0.mk (blk_below BX.out hb)
  replace BY := Aside0.mk (blk_below BY.out hb)
  clear hb
  (try clear cx0 cx1 cy0 cy1)
  have cx0 : u3.cell? ⟨w.heap.size, 0, none⟩ = some (.int .u64 (x : Int)) := (blk_cell BX.out 0).trans rfl
  have cx1 : u3.cell? ⟨w.heap.size, 1, none⟩ = some (.string s) := (blk_cell BX.out 1).trans rfl
  have cy0 : u3.cell? ⟨w.heap.size + 1, 0, none⟩ = some (.int .u64 (y : Int)) := (blk_cell BY.out 0).trans rfl
  have cy1 : u3.cell? ⟨w.heap.size + 1, 1, none⟩ = some (.string t) := (blk_cell BY.out 1).trans rfl
  by_cases w1 : r < 0
  · rw [decide_eq_true w1]
    have hr : r = -1 := by have := HG.out; omega
    subst hr
    clear w1
    go_wp2
    go_ret
    exact ⟨rfl, HB.out⟩
  rw [decide_eq_false w1]
  go_wp2_with fail
  refine (HA2.out _).mono ?_
  rintro e u4 ⟨rfl, hb⟩
  replace HB := Aside0.mk (below_step HB.out hb)
  replace BX := Aside0.mk (blk_below BX.out hb)
  replace BY := Aside0.mk (blk_below BY.out hb)
  clear hb
  (try clear cx0 cx1 cy0 cy1)
  have cx0 : u4.cell? ⟨w.heap.size, 0, none⟩ = some (.int .u64 (x : Int)) := (blk_cell BX.out 0).trans rfl
  have cx1 : u4.cell? ⟨w.heap.size, 1, none⟩ = some (.string s) := (blk_cell BX.out 1).trans rfl
  have cy0 : u4.cell? ⟨w.heap.size + 1, 0, none⟩ = some (.int .u64 (y : Int)) := (blk_cell BY.out 0).trans rfl
  have cy1 : u4.cell? ⟨w.heap.size + 1, 1, none⟩ = some (.string t) := (blk_cell BY.out 1).trans rfl
  by_cases w2 : ord k (y : Int) t (x : Int) s < 0
  · rw [decide_eq_true w2]
    have hr : r = 1 := by have := HG.out; have := HN.out; omega
    subst hr
    clear w1 w2
    go_wp2
    go_ret
    exact ⟨rfl, HB.out⟩
  rw [decide_eq_false w2]
  have hr : r = 0 := by have := HG.out; have := HN.out; omega
  subst hr
  clear w1 w2
  go_wp2
  go_ret
  exact ⟨rfl, HB.out⟩
end Go.Proofs.YtnmjelcicbfjdaaDoor.Ce
