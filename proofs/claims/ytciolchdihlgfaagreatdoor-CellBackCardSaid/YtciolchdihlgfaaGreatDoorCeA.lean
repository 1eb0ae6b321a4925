import Derived.Test.YtciolchdihlgfaaGreatDoorCoAC
import Derived.Test.YtciolchdihlgfaaGreatDoorCeV
import Derived.Test.YtciolchdihlgfaaGreatDoorShc
/-! Cell: the rank of a number; the order of two cells. -/
namespace Go.Proofs.YtciolchdihlgfaaGreatDoor.Ce
open Go.RowKit Go.Proofs.YtciolchdihlgfaaGreatDoorW.PrintWords Go.Proofs.YtciolchdihlgfaaGreatDoorW.PrintLast Go.Proofs.YtciolchdihlgfaaGreatDoorW.PrintMore Go.Proofs.YtciolchdihlgfaaGreatDoor.Wire Go.Proofs.YtciolchdihlgfaaGreatDoor.PCo Go.Proofs.YtciolchdihlgfaaGreatDoor.Co
set_option linter.unusedVariables false
set_option linter.unusedSimpArgs false
set_option maxRecDepth 100000
/-- The order of two cells. -/
def cmpv (k n : Int) (s : ByteArray) (m : Int) (t : ByteArray) : Int := if chk k n s ≠ 0 ∨ chk k m t ≠ 0 then 0 else ord k n s m t
set_option maxHeartbeats 4000000 in
theorem rank_calls (k n : Int) (hn : 0 ≤ n ∧ n < 18446744073709551616) (w : World) : Calls Tryz.prog 79 #[.int .i64 k, .int .u64 n] w fun e w' => e = .returned (.int .u64 (rk k n)) ∧ w = w' := by
  by_cases h0 : k = 0
  · subst h0
    have hf := flip_xor n hn.1 hn.2
    rw [show rk 0 n = flip n from if_pos rfl, ← hf]
    clear hf hn
    go_enter Tryz.func79, Tryz.ntmps79
    go_wp2
    go_ret
    exact ⟨rfl, rfl⟩
  · have t0 : (k == 0) = false := by simpa using h0
    have t0' : (k != 0) = true := by simpa using h0
    by_cases h5 : k = 5
    · subst h5
      by_cases hl : n < 9223372036854775808
      · have t1 : decide (n < 9223372036854775808) = true := decide_eq_true hl
        have hf := flip_xor n hn.1 hn.2
        rw [show rk 5 n = flip n from by unfold rk flip; simp [hl], ← hf]
        clear hf hn hl h0
        go_enter Tryz.func79, Tryz.ntmps79
        go_wp2
        go_ret
        exact ⟨rfl, rfl⟩
      · have t1 : decide (n < 9223372036854775808) = false := decide_eq_false hl
        have hf := not_xor n hn.1 hn.2
        rw [show rk 5 n = 18446744073709551615 - n from by unfold rk; simp [hl], ← hf]
        clear hf hn hl h0
        go_enter Tryz.func79, Tryz.ntmps79
        go_wp2
        go_ret
        exact ⟨rfl, rfl⟩
    · have t5 : (k == 5) = false := by simpa using h5
      have t5' : (k != 5) = true := by simpa using h5
      rw [show rk k n = n from by unfold rk; simp [h0, h5]]
      clear h0 h5 hn
      go_enter Tryz.func79, Tryz.ntmps79
      go_wp2
      go_ret
      exact ⟨rfl, rfl⟩

theorem w64 {n : Int} (h0 : -9223372036854775808 ≤ n) (h1 : n ≤ 9223372036854775807) : wrap64 n = n := by
  unfold wrap64
  omega
theorem or_val (x y r : Int) (h : orv x y = r) : cmp_Or_int.f 3 [x, y] = some r := by
  subst h
  unfold orv
  have w1 : wrap64 1 = 1 := w64 (by omega) (by omega)
  have w2 : wrap64 2 = 2 := w64 (by omega) (by omega)
  have r0 : ∀ a b : Int, rd [a, b] 0 = a := fun _ _ => rfl
  have r1 : ∀ a b : Int, rd [a, b] 1 = b := fun _ _ => rfl
  by_cases hx : x = 0
  · by_cases hy : y = 0
    · simp [cmp_Or_int.f, cmp_Or_int.l0, r0, r1, w1, w2, hx, hy]
    · simp [cmp_Or_int.f, cmp_Or_int.l0, r0, r1, w1, w2, hx, hy]
  · simp [cmp_Or_int.f, cmp_Or_int.l0, r0, r1, w1, w2, hx]
theorem lit_i (k : IntKind) (t : TypeId) (W : World) (xs : List Int) (fr : Nat × Nat) (hx : xs.length ≤ 9223372036854775807) : Kd.C (Kd.int k) (W.alloc (.cells (xs.map (Value.int k)).toArray t fr)) (some ⟨W.heap.size, 0, none⟩) xs.length xs := by
  refine Kd.C_of_reads (d := (0 : Int)) (h1 := fun _ => rfl) ⟨rfl, hx, fun _ => ⟨_, rfl, fun j hj => ?_⟩⟩
  rw [add_plain, cell_of_row _ _ _ _ _ _ (heap_alloc_new W _)]
  simp [List.getElem?_eq_getElem hj, List.getD_eq_getElem?_getD]
theorem cmp_val (x y r : Int) (h : cmpi x y = r) : cmp_Compare_uint64.f x y = some r := by
  subst h
  unfold cmpi
  by_cases h1 : x < y
  · simp [cmp_Compare_uint64.f, cmp_isNaN_uint64.f, h1]
  · by_cases h2 : y < x <;> simp [cmp_Compare_uint64.f, cmp_isNaN_uint64.f, h1, h2]
theorem cell_of_below {W U : World} {x : Nat} {cs : Array Value} {t : TypeId} {B : Nat} (h : W.heap[x]? = some (.cells cs t (0, 0))) (hx : x < B) (hb : Below B W U) (j : Nat) : U.cell? ⟨x, j, none⟩ = cs[j]? := blk_cell ((hb.block x hx).trans h) j
theorem blk_cell_ {W : World} {x : Nat} {cs : Array Value} {t : TypeId} (h : W.heap[x]? = some (.cells cs t (0, 0))) (j : Nat) : W.cell? ⟨x, j, none⟩ = cs[j]? := blk_cell h j
set_option maxHeartbeats 16000000 in
theorem compare_calls (k n m : Int) (s t : ByteArray) (w : World) (hn : 0 ≤ n ∧ n < 18446744073709551616) (hm : 0 ≤ m ∧ m < 18446744073709551616) (hs : s.size ≤ 9223372036854775807) (ht : t.size ≤ 9223372036854775807) (hU : UtfW w) :
    Calls Tryz.prog 27 #[.int .i64 k, .agg #[.int .u64 n, .string s], .agg #[.int .u64 m, .string t]] w fun e w' => e = .returned (.int .i64 (cmpv k n s m t)) ∧ Below w.heap.size w w' := by
  have HR1 := Aside0.mk (fun (W : World) => rank_calls k n hn W)
  have HR2 := Aside0.mk (fun (W : World) => rank_calls k m hm W)
  have HC1 := Aside0.mk (fun (W : World) (hb : Below w.heap.size w W) => check_calls k n s W hs (hU.below hb))
  have HC2 := Aside0.mk (fun (W : World) (hb : Below w.heap.size w W) => check_calls k m t W ht (hU.below hb))
  obtain ⟨r, hr⟩ : ∃ r, cmpv k n s m t = r := ⟨_, rfl⟩
  rw [hr]
  unfold cmpv at hr
  obtain ⟨c1, hc1⟩ : ∃ c, chk k n s = c := ⟨_, rfl⟩
  obtain ⟨c2, hc2⟩ : ∃ c, chk k m t = c := ⟨_, rfl⟩
  rw [hc1] at HC1 hr
  rw [hc2] at HC2 hr
  have HR := Aside0.mk hr
  clear hr hc1 hc2 hU hn hm hs ht
  go_enter Tryz.func27, Tryz.ntmps27
  go_wp2_with fail
  have hx0 : (w.alloc (.cells #[.int .u64 n, .string s] 24)).alloc (.cells #[.int .u64 m, .string t] 24) |>.heap[w.heap.size]? = some (.cells #[.int .u64 n, .string s] 24 (0, 0)) := blk_alloc (heap_alloc_new w _) _
  have hx1 : (w.alloc (.cells #[.int .u64 n, .string s] 24)).alloc (.cells #[.int .u64 m, .string t] 24) |>.heap[w.heap.size + 1]? = some (.cells #[.int .u64 m, .string t] 24 (0, 0)) := by simpa using heap_alloc_new (w.alloc (.cells #[.int .u64 n, .string s] 24)) (.cells #[.int .u64 m, .string t] 24)
  have hbw := below_alloc (below_alloc (Below.refl w.heap.size w) (.cells #[.int .u64 n, .string s] 24)) (.cells #[.int .u64 m, .string t] 24)
  obtain ⟨W3, hW3⟩ : ∃ W3, (w.alloc (.cells #[.int .u64 n, .string s] 24)).alloc (.cells #[.int .u64 m, .string t] 24) = W3 := ⟨_, rfl⟩
  rw [hW3] at hx0 hx1 hbw ⊢
  clear hW3
  have HX0 := Aside0.mk hx0
  have HX1 := Aside0.mk hx1
  have HBW := Aside0.mk hbw
  clear hx0 hx1 hbw
  go_wp2_with fail
  refine (HC1.out _ HBW.out).mono ?_
  rintro e w1 ⟨rfl, hb1⟩
  have HB1 := Aside0.mk hb1
  clear hb1
  have hbb1 : Below w.heap.size w w1 := below_step HBW.out HB1.out
  have HBB1 := Aside0.mk hbb1
  clear hbb1
  by_cases hz : c1 = 0
  · subst hz
    have f0 : w1.cell? ⟨w.heap.size + 1, 0, none⟩ = some (.int .u64 m) := (blk_cell (blk_below HX1.out HB1.out) 0).trans rfl
    have f1 : w1.cell? ⟨w.heap.size + 1, 1, none⟩ = some (.string t) := (blk_cell (blk_below HX1.out HB1.out) 1).trans rfl
    go_wp2_with fail
    clear f0 f1
    refine (HC2.out _ HBB1.out).mono ?_
    rintro e w2 ⟨rfl, hb2⟩
    have hbb2 : Below w.heap.size w w2 := below_step HBB1.out hb2
    have HBB2 := Aside0.mk hbb2
    by_cases hz : c2 = 0
    · subst hz
      have hx0 := blk_below (blk_below HX0.out HB1.out) hb2
      have hx1 := blk_below (blk_below HX1.out HB1.out) hb2
      have HX0' := Aside0.mk (show w2.drew.heap[w.heap.size]? = _ from hx0)
      have HX1' := Aside0.mk (show w2.drew.heap[w.heap.size + 1]? = _ from hx1)
      have HBW' := Aside0.mk (show Below w.heap.size w w2.drew from below_drew1 hbb2)
      clear hx0 hx1 hb2 hbb2 HBB1 HBB2 HB1 HX0 HX1 HBW HC1 HC2
      go_wp2_with fail
      refine start_ (n := 17) (S := fun w' => (w'.cell? ⟨w.heap.size, 0, none⟩ = some (.int .u64 n) ∧ w'.cell? ⟨w.heap.size, 1, none⟩ = some (.string s)) ∧ w'.cell? ⟨w.heap.size + 1, 0, none⟩ = some (.int .u64 m) ∧ w'.cell? ⟨w.heap.size + 1, 1, none⟩ = some (.string t)) (ds := []) #[false, false, false, false, false, false, false, false, false, false, false, false, false, false, false, false, false] (by kernel_rfl) rfl rfl ⟨⟨(cell_of_below HX0'.out (blk_lt HX0'.out) (Below.refl _ _) 0).trans rfl, (cell_of_below HX0'.out (blk_lt HX0'.out) (Below.refl _ _) 1).trans rfl⟩, (cell_of_below HX1'.out (blk_lt HX1'.out) (Below.refl _ _) 0).trans rfl, (cell_of_below HX1'.out (blk_lt HX1'.out) (Below.refl _ _) 1).trans rfl⟩ (fun hHeld => ?_)
      obtain ⟨U0, hU0⟩ : ∃ U0, w2.drew = U0 := ⟨_, rfl⟩
      rw [hU0] at HX0' HX1' HBW' hHeld ⊢
      clear hU0
      refine pure_ (i := 0) (N := some 17) (v := ?_) (a' := ?_) #[true, false, false, false, false, false, false, false, false, false, false, false, false, false, false, false, false] rfl rfl (any_of rfl (by kernel_rfl)) (fun _ _ _ h => h) (Or.inl ⟨by rfl, ?_⟩) ?_ ?_
      rotate_left
      · intro w'
        go_simp
        with_reducible rfl
      rotate_left
      · simp only [Act.put, List.setIfInBounds_toArray, List.set_cons_zero, List.set_cons_succ, i64_w, i32_w]
        rfl
      refine pure_ (i := 1) (N := some 18) (v := ?_) (a' := ?_) #[true, true, false, false, false, false, false, false, false, false, false, false, false, false, false, false, false] rfl rfl (any_of rfl (by kernel_rfl)) (fun _ _ _ h => h) (Or.inl ⟨by rfl, ?_⟩) ?_ ?_
      rotate_left
      · intro w'
        go_simp
        with_reducible rfl
      rotate_left
      · simp only [Act.put, List.setIfInBounds_toArray, List.set_cons_zero, List.set_cons_succ, i64_w, i32_w]
        rfl
      refine pure_ (i := 4) (N := some 21) (v := ?_) (a' := ?_) #[true, true, false, false, true, false, false, false, false, false, false, false, false, false, false, false, false] rfl rfl (any_of rfl (by kernel_rfl)) (fun _ _ _ h => h) (Or.inl ⟨by rfl, ?_⟩) ?_ ?_
      rotate_left
      · intro w'
        go_simp
        with_reducible rfl
      rotate_left
      · simp only [Act.put, List.setIfInBounds_toArray, List.set_cons_zero, List.set_cons_succ, i64_w, i32_w]
        rfl
      refine pure_ (i := 5) (N := some 22) (v := ?_) (a' := ?_) #[true, true, false, false, true, true, false, false, false, false, false, false, false, false, false, false, false] rfl rfl (any_of rfl (by kernel_rfl)) (fun _ _ _ h => h) (Or.inl ⟨by rfl, ?_⟩) ?_ ?_
      rotate_left
      · intro w'
        go_simp
        with_reducible rfl
      rotate_left
      · simp only [Act.put, List.setIfInBounds_toArray, List.set_cons_zero, List.set_cons_succ, i64_w, i32_w]
        rfl
      refine pure_ (i := 9) (N := some 26) (v := ?_) (a' := ?_) #[true, true, false, false, true, true, false, false, false, true, false, false, false, false, false, false, false] rfl rfl (any_of rfl (by kernel_rfl)) (fun _ _ _ h => h) (Or.inl ⟨by rfl, ?_⟩) ?_ ?_
      rotate_left
      · intro w'
        go_simp
        with_reducible rfl
      rotate_left
      · simp only [Act.put, List.setIfInBounds_toArray, List.set_cons_zero, List.set_cons_succ, i64_w, i32_w]
        rfl
      refine pure_ (i := 11) (N := some 28) (v := ?_) (a' := ?_) #[true, true, false, false, true, true, false, false, false, true, false, true, false, false, false, false, false] rfl rfl (any_of rfl (by kernel_rfl)) (fun _ _ _ h => h) (Or.inl ⟨by rfl, ?_⟩) ?_ ?_
      rotate_left
      · intro w'
        go_simp
        with_reducible rfl
      rotate_left
      · simp only [Act.put, List.setIfInBounds_toArray, List.set_cons_zero, List.set_cons_succ, i64_w, i32_w]
        rfl
      refine take_ (i := 2) (N := some 19) (v := ?_) (a' := ?_) #[true, true, true, false, true, true, false, false, false, true, false, true, false, false, false, false, false] rfl rfl (take_of rfl (by kernel_rfl)) (fun _ _ _ h => h) (Or.inl ⟨by rfl, ?_⟩) hHeld ?_ ?_
      rotate_left
      · rintro w' ⟨⟨s0, s1⟩, s2, s3⟩
        go_simp
        with_reducible rfl
      rotate_left
      · simp only [Act.put, List.setIfInBounds_toArray, List.set_cons_zero, List.set_cons_succ, i64_w, i32_w]
        rfl
      refine take_ (i := 6) (N := some 23) (v := ?_) (a' := ?_) #[true, true, true, false, true, true, true, false, false, true, false, true, false, false, false, false, false] rfl rfl (take_of rfl (by kernel_rfl)) (fun _ _ _ h => h) (Or.inl ⟨by rfl, ?_⟩) hHeld ?_ ?_
      rotate_left
      · rintro w' ⟨⟨s0, s1⟩, s2, s3⟩
        go_simp
        with_reducible rfl
      rotate_left
      · simp only [Act.put, List.setIfInBounds_toArray, List.set_cons_zero, List.set_cons_succ, i64_w, i32_w]
        rfl
      refine take_ (i := 10) (N := some 27) (v := ?_) (a' := ?_) #[true, true, true, false, true, true, true, false, false, true, true, true, false, false, false, false, false] rfl rfl (take_of rfl (by kernel_rfl)) (fun _ _ _ h => h) (Or.inl ⟨by rfl, ?_⟩) hHeld ?_ ?_
      rotate_left
      · rintro w' ⟨⟨s0, s1⟩, s2, s3⟩
        go_simp
        with_reducible rfl
      rotate_left
      · simp only [Act.put, List.setIfInBounds_toArray, List.set_cons_zero, List.set_cons_succ, i64_w, i32_w]
        rfl
      refine take_ (i := 12) (N := some 29) (v := ?_) (a' := ?_) #[true, true, true, false, true, true, true, false, false, true, true, true, true, false, false, false, false] rfl rfl (take_of rfl (by kernel_rfl)) (fun _ _ _ h => h) (Or.inl ⟨by rfl, ?_⟩) hHeld ?_ ?_
      rotate_left
      · rintro w' ⟨⟨s0, s1⟩, s2, s3⟩
        go_simp
        with_reducible rfl
      rotate_left
      · simp only [Act.put, List.setIfInBounds_toArray, List.set_cons_zero, List.set_cons_succ, i64_w, i32_w]
        rfl
      refine one_ (i := 3) (N := some 20) #[true, true, true, true, true, true, true, false, false, true, true, true, true, false, false, false, false] rfl rfl (one_of rfl (by kernel_rfl)) (by decide) (fun K hK => ?_)
      refine goes_ Tryz.func79 (by kernel_rfl) rfl #[.int .i64 k, .int .u64 n] (by rfl) rfl rfl (by (try simp only [List.map_toArray, List.map_cons, List.map_nil]); rfl) ?_
      refine (HR1.out _).mono ?_
      rintro e w2 ⟨rfl, rfl⟩
      refine ⟨_, rfl, ?_⟩
      refine hK.out _ _ hHeld (fun hHeld => ?_)
      clear hK K
      refine norm_ (a' := ?_) ?_ ?_
      rotate_left
      · show Act.put _ (some 20) _ = _
        simp only [Act.put, List.setIfInBounds_toArray, List.set_cons_zero, List.set_cons_succ, i64_w, i32_w]
        rfl
      refine one_ (i := 7) (N := some 24) #[true, true, true, true, true, true, true, true, false, true, true, true, true, false, false, false, false] rfl rfl (one_of rfl (by kernel_rfl)) (by decide) (fun K hK => ?_)
      refine goes_ Tryz.func79 (by kernel_rfl) rfl #[.int .i64 k, .int .u64 m] (by rfl) rfl rfl (by (try simp only [List.map_toArray, List.map_cons, List.map_nil]); rfl) ?_
      refine (HR2.out _).mono ?_
      rintro e w2 ⟨rfl, rfl⟩
      refine ⟨_, rfl, ?_⟩
      refine hK.out _ _ hHeld (fun hHeld => ?_)
      clear hK K
      refine norm_ (a' := ?_) ?_ ?_
      rotate_left
      · show Act.put _ (some 24) _ = _
        simp only [Act.put, List.setIfInBounds_toArray, List.set_cons_zero, List.set_cons_succ, i64_w, i32_w]
        rfl
      refine one_ (i := 8) (N := some 25) #[true, true, true, true, true, true, true, true, true, true, true, true, true, false, false, false, false] rfl rfl (one_of rfl (by kernel_rfl)) (by decide) (fun K hK => ?_)
      refine goes_ Tryz.func78 (by kernel_rfl) rfl #[.int .u64 (rk k n), .int .u64 (rk k m)] (by rfl) rfl rfl (by (try simp only [List.map_toArray, List.map_cons, List.map_nil]); rfl) ?_
      refine (cmp_Compare_uint64.calls (rk k n) (rk k m) _ _ (cmp_val _ _ _ rfl)).mono ?_
      rintro e w2 ⟨rfl, ⟨m1, rfl⟩⟩
      refine ⟨_, rfl, ?_⟩
      have hb1 : Below U0.heap.size U0 (U0.drewN m1) := pw_below_drewN (Below.refl _ _) _
      refine hK.out _ _ ⟨⟨(cell_of_below HX0'.out (blk_lt HX0'.out) hb1 0).trans rfl, (cell_of_below HX0'.out (blk_lt HX0'.out) hb1 1).trans rfl⟩, (cell_of_below HX1'.out (blk_lt HX1'.out) hb1 0).trans rfl, (cell_of_below HX1'.out (blk_lt HX1'.out) hb1 1).trans rfl⟩ (fun hHeld => ?_)
      clear hK K
      refine norm_ (a' := ?_) ?_ ?_
      rotate_left
      · show Act.put _ (some 25) _ = _
        simp only [Act.put, List.setIfInBounds_toArray, List.set_cons_zero, List.set_cons_succ, i64_w, i32_w]
        rfl
      have HB1' := Aside0.mk hb1
      clear hb1
      obtain ⟨U1, hU1⟩ : ∃ U1, U0.drewN m1 = U1 := ⟨_, rfl⟩
      rw [hU1] at HB1' hHeld ⊢
      clear hU1
      refine one_ (i := 13) (N := some 30) #[true, true, true, true, true, true, true, true, true, true, true, true, true, true, false, false, false] rfl rfl (one_of rfl (by kernel_rfl)) (by decide) (fun K hK => ?_)
      refine goes_ Tryz.func80 (by kernel_rfl) rfl #[.string s, .string t] (by rfl) rfl rfl (by (try simp only [List.map_toArray, List.map_cons, List.map_nil]); rfl) ?_
      refine (Tryz.strings_Compare s t _).mono ?_
      rintro e w2 ⟨rfl, hw2⟩
      refine ⟨_, rfl, ?_⟩
      rw [hw2]
      clear hw2
      refine hK.out _ _ hHeld (fun hHeld => ?_)
      clear hK K
      refine norm_ (a' := ?_) ?_ ?_
      rotate_left
      · show Act.put _ (some 30) _ = _
        simp only [Act.put, List.setIfInBounds_toArray, List.set_cons_zero, List.set_cons_succ, i64_w, i32_w]
        rfl
      refine one_ (i := 14) (N := some 31) #[true, true, true, true, true, true, true, true, true, true, true, true, true, true, true, false, false] rfl rfl (one_of rfl (by kernel_rfl)) (by decide) (fun K hK => ?_)
      refine value_ (v := .slice (some ⟨U1.heap.size, 0, none⟩) 2 2) (w1 := U1.alloc (.cells #[.int .i64 (cmpi (rk k n) (rk k m)), .int .i64 (cb s t)] 3)) (by rfl) rfl (by go_simp) ?_
      have hb2 := below_step HB1'.out (below_alloc (Below.refl U1.heap.size U1) (.cells #[.int .i64 (cmpi (rk k n) (rk k m)), .int .i64 (cb s t)] 3))
      have hlit := lit_i .i64 3 U1 [cmpi (rk k n) (rk k m), cb s t] (0, 0) (by simp)
      refine hK.out _ _ ⟨⟨(cell_of_below HX0'.out (blk_lt HX0'.out) hb2 0).trans rfl, (cell_of_below HX0'.out (blk_lt HX0'.out) hb2 1).trans rfl⟩, (cell_of_below HX1'.out (blk_lt HX1'.out) hb2 0).trans rfl, (cell_of_below HX1'.out (blk_lt HX1'.out) hb2 1).trans rfl⟩ (fun hHeld => ?_)
      clear hK K
      refine norm_ (a' := ?_) ?_ ?_
      rotate_left
      · show Act.put _ (some 31) _ = _
        simp only [Act.put, List.setIfInBounds_toArray, List.set_cons_zero, List.set_cons_succ, i64_w, i32_w]
        rfl
      have HB2' := Aside0.mk hb2
      have HLIT := Aside0.mk hlit
      clear hb2 hlit
      refine one_ (i := 15) (N := some 32) #[true, true, true, true, true, true, true, true, true, true, true, true, true, true, true, true, false] rfl rfl (one_of rfl (by kernel_rfl)) (by decide) (fun K hK => ?_)
      refine goes_ Tryz.func77 (by kernel_rfl) rfl #[.slice (some ⟨U1.heap.size, 0, none⟩) 2 2] (by rfl) rfl rfl (by (try simp only [List.map_toArray, List.map_cons, List.map_nil]); rfl) ?_
      refine (cmp_Or_int.calls 3 (some ⟨U1.heap.size, 0, none⟩) 2 [cmpi (rk k n) (rk k m), cb s t] r _ HLIT.out (by simp) (or_val _ _ _ ((if_neg (by simp)).symm.trans HR.out))).mono ?_
      rintro e w2 ⟨rfl, ⟨m2, rfl⟩⟩
      refine ⟨_, rfl, ?_⟩
      have hb3 := pw_below_drewN HB2'.out m2
      refine hK.out _ _ ⟨⟨(cell_of_below HX0'.out (blk_lt HX0'.out) hb3 0).trans rfl, (cell_of_below HX0'.out (blk_lt HX0'.out) hb3 1).trans rfl⟩, (cell_of_below HX1'.out (blk_lt HX1'.out) hb3 0).trans rfl, (cell_of_below HX1'.out (blk_lt HX1'.out) hb3 1).trans rfl⟩ (fun hHeld => ?_)
      clear hK K
      refine norm_ (a' := ?_) ?_ ?_
      rotate_left
      · show Act.put _ (some 32) _ = _
        simp only [Act.put, List.setIfInBounds_toArray, List.set_cons_zero, List.set_cons_succ, i64_w, i32_w]
        rfl
      refine pure_ (i := 16) (N := some 6) (v := ?_) (a' := ?_) #[true, true, true, true, true, true, true, true, true, true, true, true, true, true, true, true, true] rfl rfl (any_of rfl (by kernel_rfl)) (fun _ _ _ h => h) (Or.inl ⟨by rfl, ?_⟩) ?_ ?_
      rotate_left
      · intro w'
        go_simp
        with_reducible rfl
      rotate_left
      · simp only [Act.put, List.setIfInBounds_toArray, List.set_cons_zero, List.set_cons_succ, i64_w, i32_w]
        rfl
      refine done_ (done_of rfl (by kernel_rfl)) ?_
      have hfin := below_step HBW'.out hb3
      go_wp2_with fail
      go_ret
      exact ⟨rfl, hfin⟩
    · have t1 : (c2 != 0) = true := bne_iff_ne.mpr hz
      have hr0 : r = 0 := by rw [← HR.out, if_pos (Or.inr hz)]
      subst hr0
      clear hz HR hb2 hbb2
      go_wp2
      go_ret
      exact ⟨rfl, HBB2.out⟩
  · have t1 : (c1 != 0) = true := bne_iff_ne.mpr hz
    have hr0 : r = 0 := by rw [← HR.out, if_pos (Or.inl hz)]
    subst hr0
    clear hz HR
    go_wp2
    go_ret
    exact ⟨rfl, HBB1.out⟩
end Go.Proofs.YtciolchdihlgfaaGreatDoor.Ce
