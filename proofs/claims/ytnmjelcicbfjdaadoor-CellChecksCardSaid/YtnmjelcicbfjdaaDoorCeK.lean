import Derived.Test.YtnmjelcicbfjdaaDoorCeD
import Derived.Test.YtnmjelcicbfjdaaDoorCeN
/-! CellChecks: the call. -/
namespace Go.Proofs.YtnmjelcicbfjdaaDoor.Ce
open Go.RowKit Go.Proofs.YtnmjelcicbfjdaaDoorW.PrintWords Go.Proofs.YtnmjelcicbfjdaaDoorW.PrintLast Go.Proofs.YtnmjelcicbfjdaaDoorW.PrintMore Go.Proofs.YtnmjelcicbfjdaaDoor.Wire Go.Proofs.YtnmjelcicbfjdaaDoor.PCo Go.Proofs.YtnmjelcicbfjdaaDoor.Co
set_option linter.unusedVariables false
set_option linter.unusedSimpArgs false
set_option maxRecDepth 100000
theorem refcmp_calls_ (k n m : Int) (s t : ByteArray) (w : World) (hn : 0 ≤ n ∧ n < 18446744073709551616) (hm : 0 ≤ m ∧ m < 18446744073709551616) (hs : s.size ≤ 2305843009213693952) (ht : t.size ≤ 2305843009213693952) :
    Calls Tryd.prog 24 #[.int .i64 k, .agg #[.int .u64 n, .string s], .agg #[.int .u64 m, .string t]] w fun e w' => e = .returned (.int .i64 (cmpv k n s m t)) ∧ Below w.heap.size w w' := by
  obtain ⟨x, rfl⟩ := Int.eq_ofNat_of_zero_le hn.1
  obtain ⟨y, rfl⟩ := Int.eq_ofNat_of_zero_le hm.1
  exact refcmp_calls k x y s t w (by omega) (by omega) hs ht
/-- Two rows of the names. -/
theorem names_at {w : World} {A : Option Addr} (h : Kd.C Kd.string w A 6 NAMES) : ∃ ad, A = some ad ∧ ∀ j, j < 6 → w.cell? (ad.add j) = some (.string (NAMES.getD j ByteArray.empty)) :=
  (Kd.reads_of_C (d := ByteArray.empty) h).2.2 (by omega)
set_option maxHeartbeats 16000000 in
theorem checks_calls (k n m : Int) (s t : ByteArray) (w : World) (hU : UtfW w) (hN : NamesW w) (h0 : (0 ≤ n ∧ n < 18446744073709551616) ∧ s.size ≤ 9223372036854775807) (h1 : (0 ≤ m ∧ m < 18446744073709551616) ∧ t.size ≤ 9223372036854775807) :
    Calls Tryd.prog 6 #[.int .i64 k, .agg #[.int .u64 n, .string s], .agg #[.int .u64 m, .string t]] w fun e w' => e = .returned (.bool true) ∧ Below w.heap.size w w' := by
  have HAL := Aside0.mk (fun (W : World) (hb : Below w.heap.size w W) => alive_calls W (hU.below hb))
  have hbw := below_alloc (below_alloc (Below.refl w.heap.size w) (.cells #[.int .u64 n, .string s] 24)) (.cells #[.int .u64 m, .string t] 24)
  have hx0 : (w.alloc (.cells #[.int .u64 n, .string s] 24)).alloc (.cells #[.int .u64 m, .string t] 24) |>.heap[w.heap.size]? = some (.cells #[.int .u64 n, .string s] 24 (0, 0)) := blk_alloc (heap_alloc_new w _) _
  have hx1 : (w.alloc (.cells #[.int .u64 n, .string s] 24)).alloc (.cells #[.int .u64 m, .string t] 24) |>.heap[w.heap.size + 1]? = some (.cells #[.int .u64 m, .string t] 24 (0, 0)) := by simpa using heap_alloc_new (w.alloc (.cells #[.int .u64 n, .string s] 24)) (.cells #[.int .u64 m, .string t] 24)
  have HB := Aside0.mk hbw
  have BX := Aside0.mk hx0
  have BY := Aside0.mk hx1
  clear hbw hx0 hx1
  by_cases hl0 : 2000 < s.size
  · have t1 : decide ((2000 : Int) < (s.size : Int)) = true := decide_eq_true (by omega)
    have t2 : decide (2000 < s.size) = true := decide_eq_true hl0
    clear h0 h1 hU hN hl0 BX BY
    go_enter Tryd.func6, Tryd.ntmps6
    go_wp2_with fail
    refine (HAL.out _ HB.out).mono ?_
    rintro e wq ⟨rfl, hq⟩
    have hfin := below_step HB.out hq
    go_wp2_with fail
    go_ret
    exact ⟨rfl, hfin⟩
  have t1 : decide ((2000 : Int) < (s.size : Int)) = false := decide_eq_false (by omega)
  have t2 : decide (2000 < s.size) = false := decide_eq_false hl0
  by_cases hl1 : 2000 < t.size
  · have t3 : decide ((2000 : Int) < (t.size : Int)) = true := decide_eq_true (by omega)
    have t4 : decide (2000 < t.size) = true := decide_eq_true hl1
    clear h0 h1 hU hN hl0 hl1 BX BY
    go_enter Tryd.func6, Tryd.ntmps6
    go_wp2_with fail
    refine (HAL.out _ HB.out).mono ?_
    rintro e wq ⟨rfl, hq⟩
    have hfin := below_step HB.out hq
    go_wp2_with fail
    go_ret
    exact ⟨rfl, hfin⟩
  have t3 : decide ((2000 : Int) < (t.size : Int)) = false := decide_eq_false (by omega)
  have t4 : decide (2000 < t.size) = false := decide_eq_false hl1
  have HC := Aside0.mk (fun (W : World) (hb : Below w.heap.size w W) => check_calls k n s W h0.2 (hU.below hb))
  have HR := Aside0.mk (fun (W : World) => rcheck_calls k n s W (by omega) h0.1.1)
  have HM := Aside0.mk (fun (W : World) (hb : Below w.heap.size w W) => compare_calls k n m s t W h0.1 h1.1 h0.2 h1.2 (hU.below hb))
  have HD := Aside0.mk (fun (W : World) => refcmp_calls_ k n m s t W h0.1 h1.1 (by omega) (by omega))
  have HNC := Aside0.mk (fun (W : World) (hb : Below w.heap.size w W) => names_calls W (hN.below hb))
  obtain ⟨cv, hcv⟩ : ∃ cv, chk k n s = cv := ⟨_, rfl⟩
  obtain ⟨mv, hmv⟩ : ∃ mv, cmpv k n s m t = mv := ⟨_, rfl⟩
  rw [hcv] at HC HR
  rw [hmv] at HM HD
  clear hcv hmv h0 h1 hU hN hl0 hl1
  go_enter Tryd.func6, Tryd.ntmps6
  go_wp2_with fail
  refine (HNC.out _ HB.out).mono ?_
  rintro e u1 ⟨v1, rfl, hv, hb⟩
  replace BX := Aside0.mk (blk_below BX.out hb)
  replace BY := Aside0.mk (blk_below BY.out hb)
  replace HB := Aside0.mk (below_step HB.out hb)
  obtain ⟨A1, c1, rfl, -, hC1⟩ := Kd.R_reads hv
  clear hv hb
  have C1 := Aside0.mk (show Kd.C Kd.string u1 A1 6 NAMES from hC1)
  clear hC1
  rw [show NAMES.length = 6 from rfl]
  go_wp2_with fail
  refine (deckleref04_Names.calls _ _ rfl).mono ?_
  rintro e u2 ⟨v2, rfl, hv, hb⟩
  replace BX := Aside0.mk (blk_below BX.out hb)
  replace BY := Aside0.mk (blk_below BY.out hb)
  replace C1 := Aside0.mk (Kd.C_below C1.out hb)
  replace HB := Aside0.mk (below_step HB.out hb)
  obtain ⟨A2, c2, rfl, -, hC2⟩ := Kd.R_reads hv
  clear hv hb
  have C2 := Aside0.mk (show Kd.C Kd.string u2 A2 6 NAMES from hC2)
  clear hC2
  simp only [List.length_cons, List.length_nil]
  go_wp2_with fail
  refine (HAL.out _ HB.out).mono ?_
  rintro e u3 ⟨rfl, hb⟩
  replace BX := Aside0.mk (blk_below BX.out hb)
  replace BY := Aside0.mk (blk_below BY.out hb)
  replace C1 := Aside0.mk (Kd.C_below C1.out hb)
  replace C2 := Aside0.mk (Kd.C_below C2.out hb)
  replace HB := Aside0.mk (below_step HB.out hb)
  clear hb
  obtain ⟨a1, rfl, r1⟩ := names_at C1.out
  obtain ⟨a2, rfl, r2⟩ := names_at C2.out
  clear r1 r2
  go_wp2_with fail
  go_loopw [9, 34] (fun v i wr => ∃ (j : Nat), j ≤ 6 ∧ i = .int .i64 (j : Int) ∧ Aside0 (Below w.heap.size w wr) ∧ Aside0 (wr.heap[w.heap.size]? = some (.cells #[.int .u64 n, .string s] 24 (0, 0))) ∧ Aside0 (wr.heap[w.heap.size + 1]? = some (.cells #[.int .u64 m, .string t] 24 (0, 0))) ∧ Aside0 (Kd.C Kd.string wr (some a1) 6 NAMES) ∧ Aside0 (Kd.C Kd.string wr (some a2) 6 NAMES)) (fun v i _ => 6 - (intOf i).toNat)
  case atStart => exact ⟨0, by omega, rfl, ⟨HB.out⟩, ⟨BX.out⟩, ⟨BY.out⟩, ⟨C1.out⟩, ⟨C2.out⟩⟩
  case round =>
    clear HB BX BY C1 C2
    obtain ⟨j, hj, rfl, HB, BX, BY, C1, C2⟩ := hrel
    by_cases hlt : j < 6
    · have u1 : decide ((j : Int) < 6) = true := decide_eq_true (by omega)
      have u2 : decide (j < 6) = true := decide_eq_true hlt
      have hmax : (j : Int) + 1 ≤ 9223372036854775807 := by omega
      have p0 : (0 ≤ (j : Int)) = True := eq_true (by omega)
      have p1 : ((j : Int) < 6) = True := eq_true (by omega)
      have HLT := Aside0.mk hlt
      clear hj hlt
      obtain ⟨z1, hz1, r1⟩ := names_at C1.out
      obtain ⟨z2, hz2, r2⟩ := names_at C2.out
      obtain rfl : a1 = z1 := Option.some.inj hz1
      obtain rfl : a2 = z2 := Option.some.inj hz2
      have f1 := r1 j HLT.out
      have f2 := r2 j HLT.out
      clear r1 r2 hz1 hz2
      obtain ⟨nm_, hnm⟩ : ∃ z, NAMES.getD j ByteArray.empty = z := ⟨_, rfl⟩
      rw [hnm] at f1 f2
      clear hnm
      go_wp2_with fail
      refine start_ (n := 9) (S := fun w' => w'.cell? (a1.add j) = some (.string nm_) ∧ w'.cell? (a2.add j) = some (.string nm_)) (ds := []) #[false, false, false, false, false, false, false, false, false] (by kernel_rfl) rfl rfl ⟨f1, f2⟩ (fun hHeld => ?_)
      replace HB := Aside0.mk (below_drew1 HB.out)
      replace BX := Aside0.mk (show wr.drew.heap[w.heap.size]? = _ from BX.out)
      replace BY := Aside0.mk (show wr.drew.heap[w.heap.size + 1]? = _ from BY.out)
      replace C1 := Aside0.mk (Kd.C_drew C1.out)
      replace C2 := Aside0.mk (Kd.C_drew C2.out)
      clear f1 f2
      generalize wr.drew = W0 at *
      refine pure_ (i := 0) (N := some 37) (v := ?_) (a' := ?_) #[true, false, false, false, false, false, false, false, false] rfl rfl (any_of rfl (by kernel_rfl)) (fun _ _ _ h => h) (Or.inl ⟨by rfl, ?_⟩) ?_ ?_
      rotate_left
      · intro w'
        go_simp
        with_reducible rfl
      rotate_left
      · simp only [Act.put, List.setIfInBounds_toArray, List.set_cons_zero, List.set_cons_succ, i64_w, i32_w]
        rfl
      refine pure_ (i := 1) (N := some 38) (v := ?_) (a' := ?_) #[true, true, false, false, false, false, false, false, false] rfl rfl (any_of rfl (by kernel_rfl)) (fun _ _ _ h => h) (Or.inl ⟨by rfl, ?_⟩) ?_ ?_
      rotate_left
      · intro w'
        go_simp
        with_reducible rfl
      rotate_left
      · simp only [Act.put, List.setIfInBounds_toArray, List.set_cons_zero, List.set_cons_succ, i64_w, i32_w]
        rfl
      refine pure_ (i := 4) (N := some 41) (v := ?_) (a' := ?_) #[true, true, false, false, true, false, false, false, false] rfl rfl (any_of rfl (by kernel_rfl)) (fun _ _ _ h => h) (Or.inl ⟨by rfl, ?_⟩) ?_ ?_
      rotate_left
      · intro w'
        go_simp
        with_reducible rfl
      rotate_left
      · simp only [Act.put, List.setIfInBounds_toArray, List.set_cons_zero, List.set_cons_succ, i64_w, i32_w]
        rfl
      refine pure_ (i := 5) (N := some 42) (v := ?_) (a' := ?_) #[true, true, false, false, true, true, false, false, false] rfl rfl (any_of rfl (by kernel_rfl)) (fun _ _ _ h => h) (Or.inl ⟨by rfl, ?_⟩) ?_ ?_
      rotate_left
      · intro w'
        go_simp
        with_reducible rfl
      rotate_left
      · simp only [Act.put, List.setIfInBounds_toArray, List.set_cons_zero, List.set_cons_succ, i64_w, i32_w]
        rfl
      refine take_ (i := 2) (N := some 39) (v := ?_) (a' := ?_) #[true, true, true, false, true, true, false, false, false] rfl rfl (take_of rfl (by kernel_rfl)) (fun _ _ _ h => h) (Or.inl ⟨by rfl, ?_⟩) hHeld ?_ ?_
      rotate_left
      · rintro w' ⟨s0, s1⟩
        go_simp
        with_reducible rfl
      rotate_left
      · simp only [Act.put, List.setIfInBounds_toArray, List.set_cons_zero, List.set_cons_succ, i64_w, i32_w]
        rfl
      refine take_ (i := 6) (N := some 43) (v := ?_) (a' := ?_) #[true, true, true, false, true, true, true, false, false] rfl rfl (take_of rfl (by kernel_rfl)) (fun _ _ _ h => h) (Or.inl ⟨by rfl, ?_⟩) hHeld ?_ ?_
      rotate_left
      · rintro w' ⟨s0, s1⟩
        go_simp
        with_reducible rfl
      rotate_left
      · simp only [Act.put, List.setIfInBounds_toArray, List.set_cons_zero, List.set_cons_succ, i64_w, i32_w]
        rfl
      refine take_ (i := 3) (N := some 40) (v := ?_) (a' := ?_) #[true, true, true, true, true, true, true, false, false] rfl rfl (take_of rfl (by kernel_rfl)) (fun _ _ _ h => h) (Or.inl ⟨by rfl, ?_⟩) hHeld ?_ ?_
      rotate_left
      · rintro w' ⟨s0, s1⟩
        go_simp
        with_reducible rfl
      rotate_left
      · simp only [Act.put, List.setIfInBounds_toArray, List.set_cons_zero, List.set_cons_succ, i64_w, i32_w]
        rfl
      refine take_ (i := 7) (N := some 44) (v := ?_) (a' := ?_) #[true, true, true, true, true, true, true, true, false] rfl rfl (take_of rfl (by kernel_rfl)) (fun _ _ _ h => h) (Or.inl ⟨by rfl, ?_⟩) hHeld ?_ ?_
      rotate_left
      · rintro w' ⟨s0, s1⟩
        go_simp
        with_reducible rfl
      rotate_left
      · simp only [Act.put, List.setIfInBounds_toArray, List.set_cons_zero, List.set_cons_succ, i64_w, i32_w]
        rfl
      refine pure_ (i := 8) (N := some 45) (v := ?_) (a' := ?_) #[true, true, true, true, true, true, true, true, true] rfl rfl (any_of rfl (by kernel_rfl)) (fun _ _ _ h => h) (Or.inl ⟨by rfl, ?_⟩) ?_ ?_
      rotate_left
      · intro w'
        go_simp
        with_reducible rfl
      rotate_left
      · simp only [Act.put, List.setIfInBounds_toArray, List.set_cons_zero, List.set_cons_succ, i64_w, i32_w]
        rfl
      refine done_ (done_of rfl (by kernel_rfl)) ?_
      clear hHeld
      go_wp2_with fail
      go_roundw
      case rel => exact ⟨j + 1, HLT.out, by go_num, ⟨HB.out⟩, ⟨BX.out⟩, ⟨BY.out⟩, ⟨C1.out⟩, ⟨C2.out⟩⟩
      case measure => have := HLT.out; simp [intOf]; omega
    · have u1 : decide ((j : Int) < 6) = false := decide_eq_false (by omega)
      have u2 : decide (j < 6) = false := decide_eq_false hlt
      obtain rfl : j = 6 := by omega
      clear hj hlt C1 C2
      go_wp2_with fail
      replace HB := Aside0.mk (below_drew1 HB.out)
      replace BX := Aside0.mk (show wr.drew.heap[w.heap.size]? = _ from BX.out)
      replace BY := Aside0.mk (show wr.drew.heap[w.heap.size + 1]? = _ from BY.out)
      refine start_ (n := 19) (S := fun w' => (w'.cell? ⟨w.heap.size, 0, none⟩ = some (.int .u64 n) ∧ w'.cell? ⟨w.heap.size, 1, none⟩ = some (.string s)) ∧ w'.cell? ⟨w.heap.size + 1, 0, none⟩ = some (.int .u64 m) ∧ w'.cell? ⟨w.heap.size + 1, 1, none⟩ = some (.string t)) (ds := []) #[false, false, false, false, false, false, false, false, false, false, false, false, false, false, false, false, false, false, false] (by kernel_rfl) rfl rfl ⟨⟨(cell_of_below BX.out (blk_lt BX.out) (Below.refl _ _) 0).trans rfl, (cell_of_below BX.out (blk_lt BX.out) (Below.refl _ _) 1).trans rfl⟩, (cell_of_below BY.out (blk_lt BY.out) (Below.refl _ _) 0).trans rfl, (cell_of_below BY.out (blk_lt BY.out) (Below.refl _ _) 1).trans rfl⟩ (fun hHeld => ?_)
      generalize wr.drew = T0 at *
      refine pure_ (i := 0) (N := some 47) (v := ?_) (a' := ?_) #[true, false, false, false, false, false, false, false, false, false, false, false, false, false, false, false, false, false, false] rfl rfl (any_of rfl (by kernel_rfl)) (fun _ _ _ h => h) (Or.inl ⟨by rfl, ?_⟩) ?_ ?_
      rotate_left
      · intro w'
        go_simp
        with_reducible rfl
      rotate_left
      · simp only [Act.put, List.setIfInBounds_toArray, List.set_cons_zero, List.set_cons_succ, i64_w, i32_w]
        rfl
      refine pure_ (i := 3) (N := some 50) (v := ?_) (a' := ?_) #[true, false, false, true, false, false, false, false, false, false, false, false, false, false, false, false, false, false, false] rfl rfl (any_of rfl (by kernel_rfl)) (fun _ _ _ h => h) (Or.inl ⟨by rfl, ?_⟩) ?_ ?_
      rotate_left
      · intro w'
        go_simp
        with_reducible rfl
      rotate_left
      · simp only [Act.put, List.setIfInBounds_toArray, List.set_cons_zero, List.set_cons_succ, i64_w, i32_w]
        rfl
      refine take_ (i := 1) (N := some 48) (v := ?_) (a' := ?_) #[true, true, false, true, false, false, false, false, false, false, false, false, false, false, false, false, false, false, false] rfl rfl (take_of rfl (by kernel_rfl)) (fun _ _ _ h => h) (Or.inl ⟨by rfl, ?_⟩) hHeld ?_ ?_
      rotate_left
      · rintro w' ⟨⟨q0, q1⟩, q2, q3⟩
        go_simp
        with_reducible rfl
      rotate_left
      · simp only [Act.put, List.setIfInBounds_toArray, List.set_cons_zero, List.set_cons_succ, i64_w, i32_w]
        rfl
      refine take_ (i := 4) (N := some 51) (v := ?_) (a' := ?_) #[true, true, false, true, true, false, false, false, false, false, false, false, false, false, false, false, false, false, false] rfl rfl (take_of rfl (by kernel_rfl)) (fun _ _ _ h => h) (Or.inl ⟨by rfl, ?_⟩) hHeld ?_ ?_
      rotate_left
      · rintro w' ⟨⟨q0, q1⟩, q2, q3⟩
        go_simp
        with_reducible rfl
      rotate_left
      · simp only [Act.put, List.setIfInBounds_toArray, List.set_cons_zero, List.set_cons_succ, i64_w, i32_w]
        rfl
      refine one_ (i := 2) (N := some 49) #[true, true, true, true, true, false, false, false, false, false, false, false, false, false, false, false, false, false, false] rfl rfl (one_of rfl (by kernel_rfl)) (by decide) (fun K hK => ?_)
      refine goes_ Tryd.func12 (by kernel_rfl) rfl #[.int .i64 k, .agg #[.int .u64 n, .string s]] (by rfl) rfl rfl (by (try simp only [List.map_toArray, List.map_cons, List.map_nil]); rfl) ?_
      refine (HC.out _ HB.out).mono ?_
      rintro e w2 ⟨rfl, hb⟩
      refine ⟨_, rfl, ?_⟩
      have m1 := hb
      refine hK.out _ _ ⟨⟨(cell_of_below BX.out (blk_lt BX.out) m1 0).trans rfl, (cell_of_below BX.out (blk_lt BX.out) m1 1).trans rfl⟩, (cell_of_below BY.out (blk_lt BY.out) m1 0).trans rfl, (cell_of_below BY.out (blk_lt BY.out) m1 1).trans rfl⟩ (fun hHeld => ?_)
      clear hK K
      refine norm_ (a' := ?_) ?_ ?_
      rotate_left
      · show Act.put _ (some 49) _ = _
        simp only [Act.put, List.setIfInBounds_toArray, List.set_cons_zero, List.set_cons_succ, i64_w, i32_w]
        rfl
      clear hb
      refine one_ (i := 5) (N := some 52) #[true, true, true, true, true, true, false, false, false, false, false, false, false, false, false, false, false, false, false] rfl rfl (one_of rfl (by kernel_rfl)) (by decide) (fun K hK => ?_)
      refine goes_ Tryd.func23 (by kernel_rfl) rfl #[.int .i64 k, .agg #[.int .u64 n, .string s]] (by rfl) rfl rfl (by (try simp only [List.map_toArray, List.map_cons, List.map_nil]); rfl) ?_
      refine (HR.out _).mono ?_
      rintro e w2 ⟨rfl, hb⟩
      refine ⟨_, rfl, ?_⟩
      have m2 := below_step m1 hb
      refine hK.out _ _ ⟨⟨(cell_of_below BX.out (blk_lt BX.out) m2 0).trans rfl, (cell_of_below BX.out (blk_lt BX.out) m2 1).trans rfl⟩, (cell_of_below BY.out (blk_lt BY.out) m2 0).trans rfl, (cell_of_below BY.out (blk_lt BY.out) m2 1).trans rfl⟩ (fun hHeld => ?_)
      clear hK K
      refine norm_ (a' := ?_) ?_ ?_
      rotate_left
      · show Act.put _ (some 52) _ = _
        simp only [Act.put, List.setIfInBounds_toArray, List.set_cons_zero, List.set_cons_succ, i64_w, i32_w]
        rfl
      clear hb
      refine pure_ (i := 6) (N := some 53) (v := ?_) (a' := ?_) #[true, true, true, true, true, true, true, false, false, false, false, false, false, false, false, false, false, false, false] rfl rfl (any_of rfl (by kernel_rfl)) (fun _ _ _ h => h) (Or.inl ⟨by rfl, ?_⟩) ?_ ?_
      rotate_left
      · intro w'
        go_simp
        with_reducible rfl
      rotate_left
      · simp only [Act.put, List.setIfInBounds_toArray, List.set_cons_zero, List.set_cons_succ, i64_w, i32_w]
        rfl
      refine pure_ (i := 7) (N := some 54) (v := ?_) (a' := ?_) #[true, true, true, true, true, true, true, true, false, false, false, false, false, false, false, false, false, false, false] rfl rfl (any_of rfl (by kernel_rfl)) (fun _ _ _ h => h) (Or.inl ⟨by rfl, ?_⟩) ?_ ?_
      rotate_left
      · intro w'
        go_simp
        with_reducible rfl
      rotate_left
      · simp only [Act.put, List.setIfInBounds_toArray, List.set_cons_zero, List.set_cons_succ, i64_w, i32_w]
        rfl
      refine pure_ (i := 8) (N := some 55) (v := ?_) (a' := ?_) #[true, true, true, true, true, true, true, true, true, false, false, false, false, false, false, false, false, false, false] rfl rfl (any_of rfl (by kernel_rfl)) (fun _ _ _ h => h) (Or.inl ⟨by rfl, ?_⟩) ?_ ?_
      rotate_left
      · intro w'
        go_simp
        with_reducible rfl
      rotate_left
      · simp only [Act.put, List.setIfInBounds_toArray, List.set_cons_zero, List.set_cons_succ, i64_w, i32_w]
        rfl
      refine pure_ (i := 12) (N := some 59) (v := ?_) (a' := ?_) #[true, true, true, true, true, true, true, true, true, false, false, false, true, false, false, false, false, false, false] rfl rfl (any_of rfl (by kernel_rfl)) (fun _ _ _ h => h) (Or.inl ⟨by rfl, ?_⟩) ?_ ?_
      rotate_left
      · intro w'
        go_simp
        with_reducible rfl
      rotate_left
      · simp only [Act.put, List.setIfInBounds_toArray, List.set_cons_zero, List.set_cons_succ, i64_w, i32_w]
        rfl
      refine take_ (i := 9) (N := some 56) (v := ?_) (a' := ?_) #[true, true, true, true, true, true, true, true, true, true, false, false, true, false, false, false, false, false, false] rfl rfl (take_of rfl (by kernel_rfl)) (fun _ _ _ h => h) (Or.inl ⟨by rfl, ?_⟩) hHeld ?_ ?_
      rotate_left
      · rintro w' ⟨⟨q0, q1⟩, q2, q3⟩
        go_simp
        with_reducible rfl
      rotate_left
      · simp only [Act.put, List.setIfInBounds_toArray, List.set_cons_zero, List.set_cons_succ, i64_w, i32_w]
        rfl
      refine take_ (i := 10) (N := some 57) (v := ?_) (a' := ?_) #[true, true, true, true, true, true, true, true, true, true, true, false, true, false, false, false, false, false, false] rfl rfl (take_of rfl (by kernel_rfl)) (fun _ _ _ h => h) (Or.inl ⟨by rfl, ?_⟩) hHeld ?_ ?_
      rotate_left
      · rintro w' ⟨⟨q0, q1⟩, q2, q3⟩
        go_simp
        with_reducible rfl
      rotate_left
      · simp only [Act.put, List.setIfInBounds_toArray, List.set_cons_zero, List.set_cons_succ, i64_w, i32_w]
        rfl
      refine take_ (i := 13) (N := some 60) (v := ?_) (a' := ?_) #[true, true, true, true, true, true, true, true, true, true, true, false, true, true, false, false, false, false, false] rfl rfl (take_of rfl (by kernel_rfl)) (fun _ _ _ h => h) (Or.inl ⟨by rfl, ?_⟩) hHeld ?_ ?_
      rotate_left
      · rintro w' ⟨⟨q0, q1⟩, q2, q3⟩
        go_simp
        with_reducible rfl
      rotate_left
      · simp only [Act.put, List.setIfInBounds_toArray, List.set_cons_zero, List.set_cons_succ, i64_w, i32_w]
        rfl
      refine take_ (i := 14) (N := some 61) (v := ?_) (a' := ?_) #[true, true, true, true, true, true, true, true, true, true, true, false, true, true, true, false, false, false, false] rfl rfl (take_of rfl (by kernel_rfl)) (fun _ _ _ h => h) (Or.inl ⟨by rfl, ?_⟩) hHeld ?_ ?_
      rotate_left
      · rintro w' ⟨⟨q0, q1⟩, q2, q3⟩
        go_simp
        with_reducible rfl
      rotate_left
      · simp only [Act.put, List.setIfInBounds_toArray, List.set_cons_zero, List.set_cons_succ, i64_w, i32_w]
        rfl
      refine one_ (i := 11) (N := some 58) #[true, true, true, true, true, true, true, true, true, true, true, true, true, true, true, false, false, false, false] rfl rfl (one_of rfl (by kernel_rfl)) (by decide) (fun K hK => ?_)
      refine goes_ Tryd.func14 (by kernel_rfl) rfl #[.int .i64 k, .agg #[.int .u64 n, .string s], .agg #[.int .u64 m, .string t]] (by rfl) rfl rfl (by (try simp only [List.map_toArray, List.map_cons, List.map_nil]); rfl) ?_
      refine (HM.out _ (below_step HB.out m2)).mono ?_
      rintro e w2 ⟨rfl, hb⟩
      refine ⟨_, rfl, ?_⟩
      have m3 := below_step m2 hb
      refine hK.out _ _ ⟨⟨(cell_of_below BX.out (blk_lt BX.out) m3 0).trans rfl, (cell_of_below BX.out (blk_lt BX.out) m3 1).trans rfl⟩, (cell_of_below BY.out (blk_lt BY.out) m3 0).trans rfl, (cell_of_below BY.out (blk_lt BY.out) m3 1).trans rfl⟩ (fun hHeld => ?_)
      clear hK K
      refine norm_ (a' := ?_) ?_ ?_
      rotate_left
      · show Act.put _ (some 58) _ = _
        simp only [Act.put, List.setIfInBounds_toArray, List.set_cons_zero, List.set_cons_succ, i64_w, i32_w]
        rfl
      clear hb
      refine one_ (i := 15) (N := some 62) #[true, true, true, true, true, true, true, true, true, true, true, true, true, true, true, true, false, false, false] rfl rfl (one_of rfl (by kernel_rfl)) (by decide) (fun K hK => ?_)
      refine goes_ Tryd.func24 (by kernel_rfl) rfl #[.int .i64 k, .agg #[.int .u64 n, .string s], .agg #[.int .u64 m, .string t]] (by rfl) rfl rfl (by (try simp only [List.map_toArray, List.map_cons, List.map_nil]); rfl) ?_
      refine (HD.out _).mono ?_
      rintro e w2 ⟨rfl, hb⟩
      refine ⟨_, rfl, ?_⟩
      have m4 := below_step m3 hb
      refine hK.out _ _ ⟨⟨(cell_of_below BX.out (blk_lt BX.out) m4 0).trans rfl, (cell_of_below BX.out (blk_lt BX.out) m4 1).trans rfl⟩, (cell_of_below BY.out (blk_lt BY.out) m4 0).trans rfl, (cell_of_below BY.out (blk_lt BY.out) m4 1).trans rfl⟩ (fun hHeld => ?_)
      clear hK K
      refine norm_ (a' := ?_) ?_ ?_
      rotate_left
      · show Act.put _ (some 62) _ = _
        simp only [Act.put, List.setIfInBounds_toArray, List.set_cons_zero, List.set_cons_succ, i64_w, i32_w]
        rfl
      clear hb
      refine pure_ (i := 16) (N := some 63) (v := ?_) (a' := ?_) #[true, true, true, true, true, true, true, true, true, true, true, true, true, true, true, true, true, false, false] rfl rfl (any_of rfl (by kernel_rfl)) (fun _ _ _ h => h) (Or.inl ⟨by rfl, ?_⟩) ?_ ?_
      rotate_left
      · intro w'
        go_simp
        with_reducible rfl
      rotate_left
      · simp only [Act.put, List.setIfInBounds_toArray, List.set_cons_zero, List.set_cons_succ, i64_w, i32_w]
        rfl
      refine pure_ (i := 17) (N := some 64) (v := ?_) (a' := ?_) #[true, true, true, true, true, true, true, true, true, true, true, true, true, true, true, true, true, true, false] rfl rfl (any_of rfl (by kernel_rfl)) (fun _ _ _ h => h) (Or.inl ⟨by rfl, ?_⟩) ?_ ?_
      rotate_left
      · intro w'
        go_simp
        with_reducible rfl
      rotate_left
      · simp only [Act.put, List.setIfInBounds_toArray, List.set_cons_zero, List.set_cons_succ, i64_w, i32_w]
        rfl
      refine pure_ (i := 18) (N := some 6) (v := ?_) (a' := ?_) #[true, true, true, true, true, true, true, true, true, true, true, true, true, true, true, true, true, true, true] rfl rfl (any_of rfl (by kernel_rfl)) (fun _ _ _ h => h) (Or.inl ⟨by rfl, ?_⟩) ?_ ?_
      rotate_left
      · intro w'
        go_simp
        with_reducible rfl
      rotate_left
      · simp only [Act.put, List.setIfInBounds_toArray, List.set_cons_zero, List.set_cons_succ, i64_w, i32_w]
        rfl
      refine done_ (done_of rfl (by kernel_rfl)) ?_
      have hfin := below_step HB.out m4
      clear hHeld
      go_wp2_with fail
      go_ret
      exact ⟨rfl, hfin⟩
end Go.Proofs.YtnmjelcicbfjdaaDoor.Ce
