import Derived.Test.YtnmjelcicbfjdaaDoorCeF
/-! CellOrder: the call. -/
namespace Go.Proofs.YtnmjelcicbfjdaaDoor.Ce
open Go.RowKit Go.Proofs.YtnmjelcicbfjdaaDoorW.PrintWords Go.Proofs.YtnmjelcicbfjdaaDoorW.PrintLast Go.Proofs.YtnmjelcicbfjdaaDoorW.PrintMore Go.Proofs.YtnmjelcicbfjdaaDoor.Wire Go.Proofs.YtnmjelcicbfjdaaDoor.PCo Go.Proofs.YtnmjelcicbfjdaaDoor.Co
set_option linter.unusedVariables false
set_option linter.unusedSimpArgs false
set_option maxRecDepth 100000
abbrev zc : Obj := .cells #[.int .u64 0, .string ⟨#[]⟩] 24 (0, 0)
abbrev oc (n : Int) (s : ByteArray) : Obj := .cells #[.int .u64 n, .string s] 24 (0, 0)
/-- Three new cells. -/
def Z3 (W U : World) (a b c : Nat) : Prop := U.heap[a]? = some zc ∧ U.heap[b]? = some zc ∧ U.heap[c]? = some zc ∧ (a ≠ b ∧ a ≠ c ∧ b ≠ c) ∧ (W.heap.size ≤ a ∧ W.heap.size ≤ b ∧ W.heap.size ≤ c) ∧ Below W.heap.size W U
theorem al3 (U : World) : U.heap.size < (U.alloc zc).heap.size ∧ (U.alloc zc).heap.size < ((U.alloc zc).alloc zc).heap.size ∧ Below U.heap.size U (((U.alloc zc).alloc zc).alloc zc) ∧
    (((U.alloc zc).alloc zc).alloc zc).heap[U.heap.size]? = some zc ∧ (((U.alloc zc).alloc zc).alloc zc).heap[(U.alloc zc).heap.size]? = some zc ∧ (((U.alloc zc).alloc zc).alloc zc).heap[((U.alloc zc).alloc zc).heap.size]? = some zc :=
  ⟨by simp, by simp, below_alloc (below_alloc (below_alloc (Below.refl _ _) _) _) _, blk_alloc (blk_alloc (heap_alloc_new U zc) _) _, blk_alloc (heap_alloc_new _ zc) _, heap_alloc_new _ zc⟩
def Six (A : Nat) (n0 : Int) (s0 : ByteArray) (n1 : Int) (s1 : ByteArray) (n2 : Int) (s2 : ByteArray) (w' : World) : Prop :=
  (w'.cell? ⟨A, 0, none⟩ = some (.int .u64 n0) ∧ w'.cell? ⟨A, 1, none⟩ = some (.string s0)) ∧ (w'.cell? ⟨A, 2, none⟩ = some (.int .u64 n1) ∧ w'.cell? ⟨A, 3, none⟩ = some (.string s1)) ∧ w'.cell? ⟨A, 4, none⟩ = some (.int .u64 n2) ∧ w'.cell? ⟨A, 5, none⟩ = some (.string s2)
theorem six {A : Nat} {n0 n1 n2 : Int} {s0 s1 s2 : ByteArray} {W U : World} (h : W.heap[A]? = some (.cells #[.int .u64 n0, .string s0, .int .u64 n1, .string s1, .int .u64 n2, .string s2] 25 (0, 0))) (hb : Below W.heap.size W U) : Six A n0 s0 n1 s1 n2 s2 U :=
  have hx := blk_lt h
  ⟨⟨(cell_of_below h hx hb 0).trans rfl, (cell_of_below h hx hb 1).trans rfl⟩, ⟨(cell_of_below h hx hb 2).trans rfl, (cell_of_below h hx hb 3).trans rfl⟩, (cell_of_below h hx hb 4).trans rfl, (cell_of_below h hx hb 5).trans rfl⟩
/-- A cell is stored. -/
theorem put_cell {U : World} {x : Nat} {a b : Value} (h : U.heap[x]? = some (.cells #[a, b] 24 (0, 0))) (v0 v1 : Value) :
    (((U.setCell ⟨x, 0, none⟩ v0).setCell ⟨x, 1, none⟩ v1).heap[x]? = some (.cells #[v0, v1] 24 (0, 0))) ∧ (∀ y, y ≠ x → ((U.setCell ⟨x, 0, none⟩ v0).setCell ⟨x, 1, none⟩ v1).heap[y]? = U.heap[y]?) :=
  ⟨blk_put (blk_put h 0 v0 rfl) 1 v1 rfl, fun y hy => (Below.heap_setCell (U.setCell ⟨x, 0, none⟩ v0) ⟨x, 1, none⟩ v1 y hy).trans (Below.heap_setCell U ⟨x, 0, none⟩ v0 y hy)⟩
theorem put_facts {U : World} {x : Nat} {a b : Value} (h : U.heap[x]? = some (.cells #[a, b] 24 (0, 0))) (v0 : Value) :
    U.cell? ⟨x, 0, none⟩ = some a ∧ U.cell? ⟨x, 1, none⟩ = some b ∧ U.frozen? ⟨x, 0, none⟩ = false ∧ U.frozen? ⟨x, 1, none⟩ = false ∧ (U.setCell ⟨x, 0, none⟩ v0).cell? ⟨x, 1, none⟩ = some b ∧ (U.setCell ⟨x, 0, none⟩ v0).frozen? ⟨x, 1, none⟩ = false :=
  have h2 : (U.setCell ⟨x, 0, none⟩ v0).heap[x]? = some (.cells #[v0, b] 24 (0, 0)) := blk_put h 0 v0 rfl
  ⟨blk_cell h 0, blk_cell h 1, blk_frozen h 0, blk_frozen h 1, blk_cell h2 1, blk_frozen h2 1⟩
set_option maxHeartbeats 16000000 in
theorem order_calls (k n0 n1 n2 : Int) (s0 s1 s2 : ByteArray) (w : World) (hU : UtfW w) (h0 : (0 ≤ n0 ∧ n0 < 18446744073709551616) ∧ s0.size ≤ 9223372036854775807) (h1 : (0 ≤ n1 ∧ n1 < 18446744073709551616) ∧ s1.size ≤ 9223372036854775807) (h2 : (0 ≤ n2 ∧ n2 < 18446744073709551616) ∧ s2.size ≤ 9223372036854775807) :
    Calls Tryd.prog 3 #[.int .i64 k, .agg #[.int .u64 n0, .string s0, .int .u64 n1, .string s1, .int .u64 n2, .string s2]] w fun e w' => e = .returned (.bool true) ∧ Below w.heap.size w w' := by
  have HC0 := Aside0.mk (fun (W : World) (hb : Below w.heap.size w W) => check_calls k n0 s0 W h0.2 (hU.below hb))
  have HC1 := Aside0.mk (fun (W : World) (hb : Below w.heap.size w W) => check_calls k n1 s1 W h1.2 (hU.below hb))
  have HC2 := Aside0.mk (fun (W : World) (hb : Below w.heap.size w W) => check_calls k n2 s2 W h2.2 (hU.below hb))
  have HX := Aside0.mk (fun (W : World) (hb : Below w.heap.size w W) => compare_calls k n0 n1 s0 s1 W h0.1 h1.1 h0.2 h1.2 (hU.below hb))
  have HY := Aside0.mk (fun (W : World) (hb : Below w.heap.size w W) => compare_calls k n1 n2 s1 s2 W h1.1 h2.1 h1.2 h2.2 (hU.below hb))
  have HZ := Aside0.mk (fun (W : World) (hb : Below w.heap.size w W) => compare_calls k n0 n2 s0 s2 W h0.1 h2.1 h0.2 h2.2 (hU.below hb))
  have HV := Aside0.mk (fun (W : World) (hb : Below w.heap.size w W) => compare_calls k n1 n0 s1 s0 W h1.1 h0.1 h1.2 h0.2 (hU.below hb))
  have HAL := Aside0.mk (fun (W : World) (hb : Below w.heap.size w W) => alive_calls W (hU.below hb))
  have H01 := Aside0.mk (And.intro h0.1 h1.1)
  clear hU h0 h1 h2
  go_enter Tryd.func3, Tryd.ntmps3
  go_wp2_with fail
  have hx0 := heap_alloc_new w (.cells #[.int .u64 n0, .string s0, .int .u64 n1, .string s1, .int .u64 n2, .string s2] 25)
  have hbw := below_alloc (Below.refl w.heap.size w) (.cells #[.int .u64 n0, .string s0, .int .u64 n1, .string s1, .int .u64 n2, .string s2] 25)
  obtain ⟨W3, hW3⟩ : ∃ W3, w.alloc (.cells #[.int .u64 n0, .string s0, .int .u64 n1, .string s1, .int .u64 n2, .string s2] 25) = W3 := ⟨_, rfl⟩
  rw [hW3] at hx0 hbw ⊢
  clear hW3
  have HX0 := Aside0.mk (show W3.drew.heap[w.heap.size]? = _ from hx0)
  have HBW := Aside0.mk (show Below w.heap.size w W3.drew from below_drew1 hbw)
  clear hx0 hbw
  refine start_ (n := 12) (S := Six w.heap.size n0 s0 n1 s1 n2 s2) (ds := []) #[false, false, false, false, false, false, false, false, false, false, false, false] (by kernel_rfl) rfl rfl (six HX0.out (Below.refl _ _)) (fun hHeld => ?_)
  generalize W3.drew = W at *
  clear W3
  refine take_ (i := 0) (N := some 11) (v := ?_) (a' := ?_) #[true, false, false, false, false, false, false, false, false, false, false, false] rfl rfl (take_of rfl (by kernel_rfl)) (fun _ _ _ h => h) (Or.inl ⟨by rfl, ?_⟩) hHeld ?_ ?_
  rotate_left
  · rintro w' ⟨⟨q0, q1⟩, ⟨q2, q3⟩, q4, q5⟩
    go_simp
    with_reducible rfl
  rotate_left
  · simp only [Act.put, List.setIfInBounds_toArray, List.set_cons_zero, List.set_cons_succ, i64_w, i32_w]
    rfl
  refine take_ (i := 2) (N := some 13) (v := ?_) (a' := ?_) #[true, false, true, false, false, false, false, false, false, false, false, false] rfl rfl (take_of rfl (by kernel_rfl)) (fun _ _ _ h => h) (Or.inl ⟨by rfl, ?_⟩) hHeld ?_ ?_
  rotate_left
  · rintro w' ⟨⟨q0, q1⟩, ⟨q2, q3⟩, q4, q5⟩
    go_simp
    with_reducible rfl
  rotate_left
  · simp only [Act.put, List.setIfInBounds_toArray, List.set_cons_zero, List.set_cons_succ, i64_w, i32_w]
    rfl
  refine take_ (i := 4) (N := some 15) (v := ?_) (a' := ?_) #[true, false, true, false, true, false, false, false, false, false, false, false] rfl rfl (take_of rfl (by kernel_rfl)) (fun _ _ _ h => h) (Or.inl ⟨by rfl, ?_⟩) hHeld ?_ ?_
  rotate_left
  · rintro w' ⟨⟨q0, q1⟩, ⟨q2, q3⟩, q4, q5⟩
    go_simp
    with_reducible rfl
  rotate_left
  · simp only [Act.put, List.setIfInBounds_toArray, List.set_cons_zero, List.set_cons_succ, i64_w, i32_w]
    rfl
  refine take_ (i := 1) (N := some 12) (v := ?_) (a' := ?_) #[true, true, true, false, true, false, false, false, false, false, false, false] rfl rfl (take_of rfl (by kernel_rfl)) (fun _ _ _ h => h) (Or.inl ⟨by rfl, ?_⟩) hHeld ?_ ?_
  rotate_left
  · rintro w' ⟨⟨q0, q1⟩, ⟨q2, q3⟩, q4, q5⟩
    go_simp
    with_reducible rfl
  rotate_left
  · simp only [Act.put, List.setIfInBounds_toArray, List.set_cons_zero, List.set_cons_succ, i64_w, i32_w]
    rfl
  refine take_ (i := 3) (N := some 14) (v := ?_) (a' := ?_) #[true, true, true, true, true, false, false, false, false, false, false, false] rfl rfl (take_of rfl (by kernel_rfl)) (fun _ _ _ h => h) (Or.inl ⟨by rfl, ?_⟩) hHeld ?_ ?_
  rotate_left
  · rintro w' ⟨⟨q0, q1⟩, ⟨q2, q3⟩, q4, q5⟩
    go_simp
    with_reducible rfl
  rotate_left
  · simp only [Act.put, List.setIfInBounds_toArray, List.set_cons_zero, List.set_cons_succ, i64_w, i32_w]
    rfl
  refine take_ (i := 5) (N := some 16) (v := ?_) (a' := ?_) #[true, true, true, true, true, true, false, false, false, false, false, false] rfl rfl (take_of rfl (by kernel_rfl)) (fun _ _ _ h => h) (Or.inl ⟨by rfl, ?_⟩) hHeld ?_ ?_
  rotate_left
  · rintro w' ⟨⟨q0, q1⟩, ⟨q2, q3⟩, q4, q5⟩
    go_simp
    with_reducible rfl
  rotate_left
  · simp only [Act.put, List.setIfInBounds_toArray, List.set_cons_zero, List.set_cons_succ, i64_w, i32_w]
    rfl
  refine join_ (σ := Nat × Nat × Nat) 3 #[true, true, true, true, true, true, true, true, true, false, false, false] (fun s => [(5, .pointer (some ⟨s.1, 0, none⟩)), (6, .pointer (some ⟨s.2.1, 0, none⟩)), (7, .pointer (some ⟨s.2.2, 0, none⟩))]) (fun s w' => Z3 W w' s.1 s.2.1 s.2.2) ?_ (fun hcont => ?_)
  rotate_left
  · refine three_ (i := 6) (j := 7) (k := 8) (Ni := some 5) (Nj := some 6) (Nk := some 7) #[true, true, true, true, true, true, true, false, false, false, false, false] #[true, true, true, true, true, true, false, true, false, false, false, false] #[true, true, true, true, true, true, false, false, true, false, false, false] rfl rfl rfl rfl rfl rfl (three_of rfl (by kernel_rfl)) (by decide) (by decide) (by decide) (fun K hK => ?_) (fun K hK => ?_) (fun K hK => ?_)
    · refine value_ (v := .pointer (some ⟨W.heap.size, 0, none⟩)) (w1 := W.alloc zc) (by rfl) rfl (by go_simp) ?_
      refine hK.out _ _ (six HX0.out (below_alloc (Below.refl _ _) _)) (fun _ => ?_)
      clear hK K
      refine norm_ (a' := ?_) ?_ ?_
      rotate_left
      · show Act.put _ (some 5) _ = _
        simp only [Act.put, List.setIfInBounds_toArray, List.set_cons_zero, List.set_cons_succ, i64_w, i32_w]
        rfl
      refine two_ (i := 7) (j := 8) (Ni := some 6) (Nj := some 7) #[true, true, true, true, true, true, true, true, false, false, false, false] #[true, true, true, true, true, true, true, false, true, false, false, false] rfl rfl rfl rfl (two_of rfl (by kernel_rfl)) (by decide) (by decide) (fun K hK => ?_) (fun K hK => ?_)
      · refine value_ (v := .pointer (some ⟨(W.alloc zc).heap.size, 0, none⟩)) (w1 := (W.alloc zc).alloc zc) (by rfl) rfl (by go_simp) ?_
        refine hK.out _ _ (six HX0.out (below_alloc (below_alloc (Below.refl _ _) _) _)) (fun _ => ?_)
        clear hK K
        refine norm_ (a' := ?_) ?_ ?_
        rotate_left
        · show Act.put _ (some 6) _ = _
          simp only [Act.put, List.setIfInBounds_toArray, List.set_cons_zero, List.set_cons_succ, i64_w, i32_w]
          rfl
        refine one_ (i := 8) (N := some 7) #[true, true, true, true, true, true, true, true, true, false, false, false] rfl rfl (one_of rfl (by kernel_rfl)) (by decide) (fun K hK => ?_)
        refine value_ (v := .pointer (some ⟨((W.alloc zc).alloc zc).heap.size, 0, none⟩)) (w1 := ((W.alloc zc).alloc zc).alloc zc) (by rfl) rfl (by go_simp) ?_
        obtain ⟨l1, l2, l3, z1, z2, z3⟩ := al3 W
        refine hK.out _ _ (six HX0.out l3) (fun _ => ?_)
        clear hK K
        have hz3 : Z3 W (((W.alloc zc).alloc zc).alloc zc) W.heap.size (W.alloc zc).heap.size ((W.alloc zc).alloc zc).heap.size := ⟨z1, z2, z3, ⟨by omega, by omega, by omega⟩, ⟨by omega, by omega, by omega⟩, l3⟩
        exact hcont (W.heap.size, (W.alloc zc).heap.size, ((W.alloc zc).alloc zc).heap.size) _ hz3
      · refine value_ (v := .pointer (some ⟨(W.alloc zc).heap.size, 0, none⟩)) (w1 := (W.alloc zc).alloc zc) (by rfl) rfl (by go_simp) ?_
        refine hK.out _ _ (six HX0.out (below_alloc (below_alloc (Below.refl _ _) _) _)) (fun _ => ?_)
        clear hK K
        refine norm_ (a' := ?_) ?_ ?_
        rotate_left
        · show Act.put _ (some 7) _ = _
          simp only [Act.put, List.setIfInBounds_toArray, List.set_cons_zero, List.set_cons_succ, i64_w, i32_w]
          rfl
        refine one_ (i := 7) (N := some 6) #[true, true, true, true, true, true, true, true, true, false, false, false] rfl rfl (one_of rfl (by kernel_rfl)) (by decide) (fun K hK => ?_)
        refine value_ (v := .pointer (some ⟨((W.alloc zc).alloc zc).heap.size, 0, none⟩)) (w1 := ((W.alloc zc).alloc zc).alloc zc) (by rfl) rfl (by go_simp) ?_
        obtain ⟨l1, l2, l3, z1, z2, z3⟩ := al3 W
        refine hK.out _ _ (six HX0.out l3) (fun _ => ?_)
        clear hK K
        have hz3 : Z3 W (((W.alloc zc).alloc zc).alloc zc) W.heap.size ((W.alloc zc).alloc zc).heap.size (W.alloc zc).heap.size := ⟨z1, z3, z2, ⟨by omega, by omega, by omega⟩, ⟨by omega, by omega, by omega⟩, l3⟩
        exact hcont (W.heap.size, ((W.alloc zc).alloc zc).heap.size, (W.alloc zc).heap.size) _ hz3
    · refine value_ (v := .pointer (some ⟨W.heap.size, 0, none⟩)) (w1 := W.alloc zc) (by rfl) rfl (by go_simp) ?_
      refine hK.out _ _ (six HX0.out (below_alloc (Below.refl _ _) _)) (fun _ => ?_)
      clear hK K
      refine norm_ (a' := ?_) ?_ ?_
      rotate_left
      · show Act.put _ (some 6) _ = _
        simp only [Act.put, List.setIfInBounds_toArray, List.set_cons_zero, List.set_cons_succ, i64_w, i32_w]
        rfl
      refine two_ (i := 6) (j := 8) (Ni := some 5) (Nj := some 7) #[true, true, true, true, true, true, true, true, false, false, false, false] #[true, true, true, true, true, true, false, true, true, false, false, false] rfl rfl rfl rfl (two_of rfl (by kernel_rfl)) (by decide) (by decide) (fun K hK => ?_) (fun K hK => ?_)
      · refine value_ (v := .pointer (some ⟨(W.alloc zc).heap.size, 0, none⟩)) (w1 := (W.alloc zc).alloc zc) (by rfl) rfl (by go_simp) ?_
        refine hK.out _ _ (six HX0.out (below_alloc (below_alloc (Below.refl _ _) _) _)) (fun _ => ?_)
        clear hK K
        refine norm_ (a' := ?_) ?_ ?_
        rotate_left
        · show Act.put _ (some 5) _ = _
          simp only [Act.put, List.setIfInBounds_toArray, List.set_cons_zero, List.set_cons_succ, i64_w, i32_w]
          rfl
        refine one_ (i := 8) (N := some 7) #[true, true, true, true, true, true, true, true, true, false, false, false] rfl rfl (one_of rfl (by kernel_rfl)) (by decide) (fun K hK => ?_)
        refine value_ (v := .pointer (some ⟨((W.alloc zc).alloc zc).heap.size, 0, none⟩)) (w1 := ((W.alloc zc).alloc zc).alloc zc) (by rfl) rfl (by go_simp) ?_
        obtain ⟨l1, l2, l3, z1, z2, z3⟩ := al3 W
        refine hK.out _ _ (six HX0.out l3) (fun _ => ?_)
        clear hK K
        have hz3 : Z3 W (((W.alloc zc).alloc zc).alloc zc) (W.alloc zc).heap.size W.heap.size ((W.alloc zc).alloc zc).heap.size := ⟨z2, z1, z3, ⟨by omega, by omega, by omega⟩, ⟨by omega, by omega, by omega⟩, l3⟩
        exact hcont ((W.alloc zc).heap.size, W.heap.size, ((W.alloc zc).alloc zc).heap.size) _ hz3
      · refine value_ (v := .pointer (some ⟨(W.alloc zc).heap.size, 0, none⟩)) (w1 := (W.alloc zc).alloc zc) (by rfl) rfl (by go_simp) ?_
        refine hK.out _ _ (six HX0.out (below_alloc (below_alloc (Below.refl _ _) _) _)) (fun _ => ?_)
        clear hK K
        refine norm_ (a' := ?_) ?_ ?_
        rotate_left
        · show Act.put _ (some 7) _ = _
          simp only [Act.put, List.setIfInBounds_toArray, List.set_cons_zero, List.set_cons_succ, i64_w, i32_w]
          rfl
        refine one_ (i := 6) (N := some 5) #[true, true, true, true, true, true, true, true, true, false, false, false] rfl rfl (one_of rfl (by kernel_rfl)) (by decide) (fun K hK => ?_)
        refine value_ (v := .pointer (some ⟨((W.alloc zc).alloc zc).heap.size, 0, none⟩)) (w1 := ((W.alloc zc).alloc zc).alloc zc) (by rfl) rfl (by go_simp) ?_
        obtain ⟨l1, l2, l3, z1, z2, z3⟩ := al3 W
        refine hK.out _ _ (six HX0.out l3) (fun _ => ?_)
        clear hK K
        have hz3 : Z3 W (((W.alloc zc).alloc zc).alloc zc) ((W.alloc zc).alloc zc).heap.size W.heap.size (W.alloc zc).heap.size := ⟨z3, z1, z2, ⟨by omega, by omega, by omega⟩, ⟨by omega, by omega, by omega⟩, l3⟩
        exact hcont (((W.alloc zc).alloc zc).heap.size, W.heap.size, (W.alloc zc).heap.size) _ hz3
    · refine value_ (v := .pointer (some ⟨W.heap.size, 0, none⟩)) (w1 := W.alloc zc) (by rfl) rfl (by go_simp) ?_
      refine hK.out _ _ (six HX0.out (below_alloc (Below.refl _ _) _)) (fun _ => ?_)
      clear hK K
      refine norm_ (a' := ?_) ?_ ?_
      rotate_left
      · show Act.put _ (some 7) _ = _
        simp only [Act.put, List.setIfInBounds_toArray, List.set_cons_zero, List.set_cons_succ, i64_w, i32_w]
        rfl
      refine two_ (i := 6) (j := 7) (Ni := some 5) (Nj := some 6) #[true, true, true, true, true, true, true, false, true, false, false, false] #[true, true, true, true, true, true, false, true, true, false, false, false] rfl rfl rfl rfl (two_of rfl (by kernel_rfl)) (by decide) (by decide) (fun K hK => ?_) (fun K hK => ?_)
      · refine value_ (v := .pointer (some ⟨(W.alloc zc).heap.size, 0, none⟩)) (w1 := (W.alloc zc).alloc zc) (by rfl) rfl (by go_simp) ?_
        refine hK.out _ _ (six HX0.out (below_alloc (below_alloc (Below.refl _ _) _) _)) (fun _ => ?_)
        clear hK K
        refine norm_ (a' := ?_) ?_ ?_
        rotate_left
        · show Act.put _ (some 5) _ = _
          simp only [Act.put, List.setIfInBounds_toArray, List.set_cons_zero, List.set_cons_succ, i64_w, i32_w]
          rfl
        refine one_ (i := 7) (N := some 6) #[true, true, true, true, true, true, true, true, true, false, false, false] rfl rfl (one_of rfl (by kernel_rfl)) (by decide) (fun K hK => ?_)
        refine value_ (v := .pointer (some ⟨((W.alloc zc).alloc zc).heap.size, 0, none⟩)) (w1 := ((W.alloc zc).alloc zc).alloc zc) (by rfl) rfl (by go_simp) ?_
        obtain ⟨l1, l2, l3, z1, z2, z3⟩ := al3 W
        refine hK.out _ _ (six HX0.out l3) (fun _ => ?_)
        clear hK K
        have hz3 : Z3 W (((W.alloc zc).alloc zc).alloc zc) (W.alloc zc).heap.size ((W.alloc zc).alloc zc).heap.size W.heap.size := ⟨z2, z3, z1, ⟨by omega, by omega, by omega⟩, ⟨by omega, by omega, by omega⟩, l3⟩
        exact hcont ((W.alloc zc).heap.size, ((W.alloc zc).alloc zc).heap.size, W.heap.size) _ hz3
      · refine value_ (v := .pointer (some ⟨(W.alloc zc).heap.size, 0, none⟩)) (w1 := (W.alloc zc).alloc zc) (by rfl) rfl (by go_simp) ?_
        refine hK.out _ _ (six HX0.out (below_alloc (below_alloc (Below.refl _ _) _) _)) (fun _ => ?_)
        clear hK K
        refine norm_ (a' := ?_) ?_ ?_
        rotate_left
        · show Act.put _ (some 6) _ = _
          simp only [Act.put, List.setIfInBounds_toArray, List.set_cons_zero, List.set_cons_succ, i64_w, i32_w]
          rfl
        refine one_ (i := 6) (N := some 5) #[true, true, true, true, true, true, true, true, true, false, false, false] rfl rfl (one_of rfl (by kernel_rfl)) (by decide) (fun K hK => ?_)
        refine value_ (v := .pointer (some ⟨((W.alloc zc).alloc zc).heap.size, 0, none⟩)) (w1 := ((W.alloc zc).alloc zc).alloc zc) (by rfl) rfl (by go_simp) ?_
        obtain ⟨l1, l2, l3, z1, z2, z3⟩ := al3 W
        refine hK.out _ _ (six HX0.out l3) (fun _ => ?_)
        clear hK K
        have hz3 : Z3 W (((W.alloc zc).alloc zc).alloc zc) ((W.alloc zc).alloc zc).heap.size (W.alloc zc).heap.size W.heap.size := ⟨z3, z2, z1, ⟨by omega, by omega, by omega⟩, ⟨by omega, by omega, by omega⟩, l3⟩
        exact hcont (((W.alloc zc).alloc zc).heap.size, (W.alloc zc).heap.size, W.heap.size) _ hz3
  rintro ⟨p, q, r⟩ U ⟨z0, z1, z2, ⟨ne1, ne2, ne3⟩, ⟨g0, g1, g2⟩, hbU⟩
  refine norm_ (a' := ?_) ?_ ?_
  rotate_left
  · simp only [putAll, Act.put, List.setIfInBounds_toArray, List.set_cons_zero, List.set_cons_succ]
    rfl
  have HB0 := Aside0.mk HBW.out
  obtain ⟨c0, c1, f0, f1, c2, f2⟩ := put_facts z0 (.int .u64 n0)
  obtain ⟨y_p, yy⟩ := put_cell z0 (.int .u64 n0) (.string s0)
  refine one_ (i := 9) (N := none) #[true, true, true, true, true, true, true, true, true, true, false, false] rfl rfl (one_of rfl (by kernel_rfl)) (by decide) (fun K hK => ?_)
  refine skip_ (w1 := (U.setCell ⟨p, 0, none⟩ (.int .u64 n0)).setCell ⟨p, 1, none⟩ (.string s0)) (by rfl) rfl (by go_simp) ?_
  have hbV0 := below_set (j := 1) (v := .string s0) (below_set (j := 0) (v := .int .u64 n0) hbU g0) g0
  have a1 := (yy _ (fun h => ne1 h.symm)).trans z1
  have a2 := (yy _ (fun h => ne2 h.symm)).trans z2
  refine hK.out _ _ (six HX0.out hbV0) (fun hS => ?_)
  clear hS hK K c0 c1 f0 f1 c2 f2 yy z0 hbU z1 z2
  obtain ⟨V0, hV⟩ : ∃ V, (U.setCell ⟨p, 0, none⟩ (.int .u64 n0)).setCell ⟨p, 1, none⟩ (.string s0) = V := ⟨_, rfl⟩
  rw [hV] at y_p hbV0 a1 a2 ⊢
  clear hV U
  obtain ⟨c0, c1, f0, f1, c2, f2⟩ := put_facts a1 (.int .u64 n1)
  obtain ⟨y_q, yy⟩ := put_cell a1 (.int .u64 n1) (.string s1)
  refine one_ (i := 10) (N := none) #[true, true, true, true, true, true, true, true, true, true, true, false] rfl rfl (one_of rfl (by kernel_rfl)) (by decide) (fun K hK => ?_)
  refine skip_ (w1 := (V0.setCell ⟨q, 0, none⟩ (.int .u64 n1)).setCell ⟨q, 1, none⟩ (.string s1)) (by rfl) rfl (by go_simp) ?_
  have hbV1 := below_set (j := 1) (v := .string s1) (below_set (j := 0) (v := .int .u64 n1) hbV0 g1) g1
  have b2 := (yy _ (fun h => ne3 h.symm)).trans a2
  have b0 := (yy _ ne1).trans y_p
  refine hK.out _ _ (six HX0.out hbV1) (fun hS => ?_)
  clear hS hK K c0 c1 f0 f1 c2 f2 yy a1 hbV0 a2 y_p
  obtain ⟨V1, hV⟩ : ∃ V, (V0.setCell ⟨q, 0, none⟩ (.int .u64 n1)).setCell ⟨q, 1, none⟩ (.string s1) = V := ⟨_, rfl⟩
  rw [hV] at y_q hbV1 b2 b0 ⊢
  clear hV V0
  obtain ⟨c0, c1, f0, f1, c2, f2⟩ := put_facts b2 (.int .u64 n2)
  obtain ⟨y_r, yy⟩ := put_cell b2 (.int .u64 n2) (.string s2)
  refine one_ (i := 11) (N := none) #[true, true, true, true, true, true, true, true, true, true, true, true] rfl rfl (one_of rfl (by kernel_rfl)) (by decide) (fun K hK => ?_)
  refine skip_ (w1 := (V1.setCell ⟨r, 0, none⟩ (.int .u64 n2)).setCell ⟨r, 1, none⟩ (.string s2)) (by rfl) rfl (by go_simp) ?_
  have hbV2 := below_set (j := 1) (v := .string s2) (below_set (j := 0) (v := .int .u64 n2) hbV1 g2) g2
  have d0 := (yy _ ne2).trans b0
  have d1 := (yy _ ne3).trans y_q
  refine hK.out _ _ (six HX0.out hbV2) (fun hS => ?_)
  clear hS hK K c0 c1 f0 f1 c2 f2 yy b2 hbV1 b0 y_q
  obtain ⟨V2, hV⟩ : ∃ V, (V1.setCell ⟨r, 0, none⟩ (.int .u64 n2)).setCell ⟨r, 1, none⟩ (.string s2) = V := ⟨_, rfl⟩
  rw [hV] at y_r hbV2 d0 d1 ⊢
  clear hV V1
  refine done_ (done_of rfl (by kernel_rfl)) ?_
  have BP := Aside0.mk d0
  have BQ := Aside0.mk d1
  have BR := Aside0.mk y_r
  have HB := Aside0.mk (below_step HB0.out hbV2)
  clear d0 d1 y_r hbV2 HX0 HB0 HBW ne1 ne2 ne3 g0 g1 g2 hHeld
  (try clear cp0 cp1 cq0 cq1 cr0 cr1)
  have cp0 : V2.cell? ⟨p, 0, none⟩ = some (.int .u64 n0) := (blk_cell BP.out 0).trans rfl
  have cp1 : V2.cell? ⟨p, 1, none⟩ = some (.string s0) := (blk_cell BP.out 1).trans rfl
  have cq0 : V2.cell? ⟨q, 0, none⟩ = some (.int .u64 n1) := (blk_cell BQ.out 0).trans rfl
  have cq1 : V2.cell? ⟨q, 1, none⟩ = some (.string s1) := (blk_cell BQ.out 1).trans rfl
  have cr0 : V2.cell? ⟨r, 0, none⟩ = some (.int .u64 n2) := (blk_cell BR.out 0).trans rfl
  have cr1 : V2.cell? ⟨r, 1, none⟩ = some (.string s2) := (blk_cell BR.out 1).trans rfl
  go_wp2_with fail
  refine (HC0.out _ HB.out).mono ?_
  rintro e u0 ⟨rfl, hb⟩
  replace BP := Aside0.mk (blk_below BP.out hb)
  replace BQ := Aside0.mk (blk_below BQ.out hb)
  replace BR := Aside0.mk (blk_below BR.out hb)
  replace HB := Aside0.mk (below_step HB.out hb)
  clear hb
  (try clear cp0 cp1 cq0 cq1 cr0 cr1)
  have cp0 : u0.cell? ⟨p, 0, none⟩ = some (.int .u64 n0) := (blk_cell BP.out 0).trans rfl
  have cp1 : u0.cell? ⟨p, 1, none⟩ = some (.string s0) := (blk_cell BP.out 1).trans rfl
  have cq0 : u0.cell? ⟨q, 0, none⟩ = some (.int .u64 n1) := (blk_cell BQ.out 0).trans rfl
  have cq1 : u0.cell? ⟨q, 1, none⟩ = some (.string s1) := (blk_cell BQ.out 1).trans rfl
  have cr0 : u0.cell? ⟨r, 0, none⟩ = some (.int .u64 n2) := (blk_cell BR.out 0).trans rfl
  have cr1 : u0.cell? ⟨r, 1, none⟩ = some (.string s2) := (blk_cell BR.out 1).trans rfl
  by_cases hz0 : chk k n0 s0 ≠ 0
  · have t1 : (chk k n0 s0 != 0) = true := bne_iff_ne.mpr hz0
    clear hz0
    go_wp2_with fail
    refine (HAL.out _ HB.out).mono ?_
    rintro e wq ⟨rfl, hq⟩
    have hfin := below_step HB.out hq
    go_wp2_with fail
    go_ret
    exact ⟨rfl, hfin⟩
  have e0 : chk k n0 s0 = 0 := Decidable.not_not.1 hz0
  rw [e0]
  clear hz0
  go_wp2_with fail
  refine (HC1.out _ HB.out).mono ?_
  rintro e u1 ⟨rfl, hb⟩
  replace BP := Aside0.mk (blk_below BP.out hb)
  replace BQ := Aside0.mk (blk_below BQ.out hb)
  replace BR := Aside0.mk (blk_below BR.out hb)
  replace HB := Aside0.mk (below_step HB.out hb)
  clear hb
  (try clear cp0 cp1 cq0 cq1 cr0 cr1)
  have cp0 : u1.cell? ⟨p, 0, none⟩ = some (.int .u64 n0) := (blk_cell BP.out 0).trans rfl
  have cp1 : u1.cell? ⟨p, 1, none⟩ = some (.string s0) := (blk_cell BP.out 1).trans rfl
  have cq0 : u1.cell? ⟨q, 0, none⟩ = some (.int .u64 n1) := (blk_cell BQ.out 0).trans rfl
  have cq1 : u1.cell? ⟨q, 1, none⟩ = some (.string s1) := (blk_cell BQ.out 1).trans rfl
  have cr0 : u1.cell? ⟨r, 0, none⟩ = some (.int .u64 n2) := (blk_cell BR.out 0).trans rfl
  have cr1 : u1.cell? ⟨r, 1, none⟩ = some (.string s2) := (blk_cell BR.out 1).trans rfl
  by_cases hz1 : chk k n1 s1 ≠ 0
  · have t1 : (chk k n1 s1 != 0) = true := bne_iff_ne.mpr hz1
    clear hz1
    go_wp2_with fail
    refine (HAL.out _ HB.out).mono ?_
    rintro e wq ⟨rfl, hq⟩
    have hfin := below_step HB.out hq
    go_wp2_with fail
    go_ret
    exact ⟨rfl, hfin⟩
  have e1 : chk k n1 s1 = 0 := Decidable.not_not.1 hz1
  rw [e1]
  clear hz1
  go_wp2_with fail
  refine (HC2.out _ HB.out).mono ?_
  rintro e u2 ⟨rfl, hb⟩
  replace BP := Aside0.mk (blk_below BP.out hb)
  replace BQ := Aside0.mk (blk_below BQ.out hb)
  replace BR := Aside0.mk (blk_below BR.out hb)
  replace HB := Aside0.mk (below_step HB.out hb)
  clear hb
  (try clear cp0 cp1 cq0 cq1 cr0 cr1)
  have cp0 : u2.cell? ⟨p, 0, none⟩ = some (.int .u64 n0) := (blk_cell BP.out 0).trans rfl
  have cp1 : u2.cell? ⟨p, 1, none⟩ = some (.string s0) := (blk_cell BP.out 1).trans rfl
  have cq0 : u2.cell? ⟨q, 0, none⟩ = some (.int .u64 n1) := (blk_cell BQ.out 0).trans rfl
  have cq1 : u2.cell? ⟨q, 1, none⟩ = some (.string s1) := (blk_cell BQ.out 1).trans rfl
  have cr0 : u2.cell? ⟨r, 0, none⟩ = some (.int .u64 n2) := (blk_cell BR.out 0).trans rfl
  have cr1 : u2.cell? ⟨r, 1, none⟩ = some (.string s2) := (blk_cell BR.out 1).trans rfl
  by_cases hz2 : chk k n2 s2 ≠ 0
  · have t1 : (chk k n2 s2 != 0) = true := bne_iff_ne.mpr hz2
    clear hz2
    go_wp2_with fail
    refine (HAL.out _ HB.out).mono ?_
    rintro e wq ⟨rfl, hq⟩
    have hfin := below_step HB.out hq
    go_wp2_with fail
    go_ret
    exact ⟨rfl, hfin⟩
  have e2 : chk k n2 s2 = 0 := Decidable.not_not.1 hz2
  rw [e2]
  clear hz2
  have E := Aside0.mk (And.intro e0 (And.intro e1 e2))
  clear e0 e1 e2
  go_wp2_with fail
  clear cp0 cp1 cq0 cq1 cr0 cr1
  have vX : cmpv k n0 s0 n1 s1 = ord k n0 s0 n1 s1 := if_neg (by rw [E.out.1, E.out.2.1]; simp)
  have vY : cmpv k n1 s1 n2 s2 = ord k n1 s1 n2 s2 := if_neg (by rw [E.out.2.1, E.out.2.2]; simp)
  have vZ : cmpv k n0 s0 n2 s2 = ord k n0 s0 n2 s2 := if_neg (by rw [E.out.1, E.out.2.2]; simp)
  have vV : cmpv k n1 s1 n0 s0 = -ord k n0 s0 n1 s1 := (if_neg (by rw [E.out.2.1, E.out.1]; simp)).trans (ord_neg k n1 s1 n0 s0)
  have o1 := ord_zero (k := k) (s := s0) (t := s1) H01.out.1 H01.out.2
  have o2 := ord_rng k n0 s0 n1 s1
  have o3 := ord_rng k n1 s1 n2 s2
  have o4 := fun h1 h2 => ord_trans (k := k) (n := n0) (m := n1) (l := n2) (s := s0) (t := s1) (u := s2) h1 h2
  rw [vX] at HX
  rw [vY] at HY
  rw [vZ] at HZ
  rw [vV] at HV
  generalize ord k n0 s0 n1 s1 = X at *
  generalize ord k n1 s1 n2 s2 = Y at *
  generalize ord k n0 s0 n2 s2 = Z at *
  have O := Aside0.mk (And.intro o1 (And.intro o2 (And.intro o3 o4)))
  clear o1 o2 o3 o4 vX vY vZ vV
  replace BP := Aside0.mk (show u2.drew.heap[p]? = _ from BP.out)
  replace BQ := Aside0.mk (show u2.drew.heap[q]? = _ from BQ.out)
  replace BR := Aside0.mk (show u2.drew.heap[r]? = _ from BR.out)
  replace HB := Aside0.mk (below_drew1 HB.out)
  refine start_ (n := 15) (S := fun w' => (w'.cell? ⟨p, 0, none⟩ = some (.int .u64 n0) ∧ w'.cell? ⟨p, 1, none⟩ = some (.string s0)) ∧ (w'.cell? ⟨q, 0, none⟩ = some (.int .u64 n1) ∧ w'.cell? ⟨q, 1, none⟩ = some (.string s1)) ∧ w'.cell? ⟨r, 0, none⟩ = some (.int .u64 n2) ∧ w'.cell? ⟨r, 1, none⟩ = some (.string s2)) (ds := []) #[false, false, false, false, false, false, false, false, false, false, false, false, false, false, false] (by kernel_rfl) rfl rfl ⟨⟨(cell_of_below BP.out (blk_lt BP.out) (Below.refl _ _) 0).trans rfl, (cell_of_below BP.out (blk_lt BP.out) (Below.refl _ _) 1).trans rfl⟩, ⟨(cell_of_below BQ.out (blk_lt BQ.out) (Below.refl _ _) 0).trans rfl, (cell_of_below BQ.out (blk_lt BQ.out) (Below.refl _ _) 1).trans rfl⟩, (cell_of_below BR.out (blk_lt BR.out) (Below.refl _ _) 0).trans rfl, (cell_of_below BR.out (blk_lt BR.out) (Below.refl _ _) 1).trans rfl⟩ (fun hHeld => ?_)
  generalize u2.drew = T0 at *
  clear u2
  refine pure_ (i := 0) (N := some 34) (v := ?_) (a' := ?_) #[true, false, false, false, false, false, false, false, false, false, false, false, false, false, false] rfl rfl (any_of rfl (by kernel_rfl)) (fun _ _ _ h => h) (Or.inl ⟨by rfl, ?_⟩) ?_ ?_
  rotate_left
  · intro w'
    go_simp
    with_reducible rfl
  rotate_left
  · simp only [Act.put, List.setIfInBounds_toArray, List.set_cons_zero, List.set_cons_succ, i64_w, i32_w]
    rfl
  refine pure_ (i := 4) (N := some 38) (v := ?_) (a' := ?_) #[true, false, false, false, true, false, false, false, false, false, false, false, false, false, false] rfl rfl (any_of rfl (by kernel_rfl)) (fun _ _ _ h => h) (Or.inl ⟨by rfl, ?_⟩) ?_ ?_
  rotate_left
  · intro w'
    go_simp
    with_reducible rfl
  rotate_left
  · simp only [Act.put, List.setIfInBounds_toArray, List.set_cons_zero, List.set_cons_succ, i64_w, i32_w]
    rfl
  refine pure_ (i := 8) (N := some 42) (v := ?_) (a' := ?_) #[true, false, false, false, true, false, false, false, true, false, false, false, false, false, false] rfl rfl (any_of rfl (by kernel_rfl)) (fun _ _ _ h => h) (Or.inl ⟨by rfl, ?_⟩) ?_ ?_
  rotate_left
  · intro w'
    go_simp
    with_reducible rfl
  rotate_left
  · simp only [Act.put, List.setIfInBounds_toArray, List.set_cons_zero, List.set_cons_succ, i64_w, i32_w]
    rfl
  refine take_ (i := 1) (N := some 35) (v := ?_) (a' := ?_) #[true, true, false, false, true, false, false, false, true, false, false, false, false, false, false] rfl rfl (take_of rfl (by kernel_rfl)) (fun _ _ _ h => h) (Or.inl ⟨by rfl, ?_⟩) hHeld ?_ ?_
  rotate_left
  · rintro w' ⟨⟨q0, q1⟩, ⟨q2, q3⟩, q4, q5⟩
    go_simp
    with_reducible rfl
  rotate_left
  · simp only [Act.put, List.setIfInBounds_toArray, List.set_cons_zero, List.set_cons_succ, i64_w, i32_w]
    rfl
  refine take_ (i := 2) (N := some 36) (v := ?_) (a' := ?_) #[true, true, true, false, true, false, false, false, true, false, false, false, false, false, false] rfl rfl (take_of rfl (by kernel_rfl)) (fun _ _ _ h => h) (Or.inl ⟨by rfl, ?_⟩) hHeld ?_ ?_
  rotate_left
  · rintro w' ⟨⟨q0, q1⟩, ⟨q2, q3⟩, q4, q5⟩
    go_simp
    with_reducible rfl
  rotate_left
  · simp only [Act.put, List.setIfInBounds_toArray, List.set_cons_zero, List.set_cons_succ, i64_w, i32_w]
    rfl
  refine take_ (i := 5) (N := some 39) (v := ?_) (a' := ?_) #[true, true, true, false, true, true, false, false, true, false, false, false, false, false, false] rfl rfl (take_of rfl (by kernel_rfl)) (fun _ _ _ h => h) (Or.inl ⟨by rfl, ?_⟩) hHeld ?_ ?_
  rotate_left
  · rintro w' ⟨⟨q0, q1⟩, ⟨q2, q3⟩, q4, q5⟩
    go_simp
    with_reducible rfl
  rotate_left
  · simp only [Act.put, List.setIfInBounds_toArray, List.set_cons_zero, List.set_cons_succ, i64_w, i32_w]
    rfl
  refine take_ (i := 6) (N := some 40) (v := ?_) (a' := ?_) #[true, true, true, false, true, true, true, false, true, false, false, false, false, false, false] rfl rfl (take_of rfl (by kernel_rfl)) (fun _ _ _ h => h) (Or.inl ⟨by rfl, ?_⟩) hHeld ?_ ?_
  rotate_left
  · rintro w' ⟨⟨q0, q1⟩, ⟨q2, q3⟩, q4, q5⟩
    go_simp
    with_reducible rfl
  rotate_left
  · simp only [Act.put, List.setIfInBounds_toArray, List.set_cons_zero, List.set_cons_succ, i64_w, i32_w]
    rfl
  refine take_ (i := 9) (N := some 43) (v := ?_) (a' := ?_) #[true, true, true, false, true, true, true, false, true, true, false, false, false, false, false] rfl rfl (take_of rfl (by kernel_rfl)) (fun _ _ _ h => h) (Or.inl ⟨by rfl, ?_⟩) hHeld ?_ ?_
  rotate_left
  · rintro w' ⟨⟨q0, q1⟩, ⟨q2, q3⟩, q4, q5⟩
    go_simp
    with_reducible rfl
  rotate_left
  · simp only [Act.put, List.setIfInBounds_toArray, List.set_cons_zero, List.set_cons_succ, i64_w, i32_w]
    rfl
  refine take_ (i := 10) (N := some 44) (v := ?_) (a' := ?_) #[true, true, true, false, true, true, true, false, true, true, true, false, false, false, false] rfl rfl (take_of rfl (by kernel_rfl)) (fun _ _ _ h => h) (Or.inl ⟨by rfl, ?_⟩) hHeld ?_ ?_
  rotate_left
  · rintro w' ⟨⟨q0, q1⟩, ⟨q2, q3⟩, q4, q5⟩
    go_simp
    with_reducible rfl
  rotate_left
  · simp only [Act.put, List.setIfInBounds_toArray, List.set_cons_zero, List.set_cons_succ, i64_w, i32_w]
    rfl
  refine one_ (i := 3) (N := some 37) #[true, true, true, true, true, true, true, false, true, true, true, false, false, false, false] rfl rfl (one_of rfl (by kernel_rfl)) (by decide) (fun K hK => ?_)
  refine goes_ Tryd.func14 (by kernel_rfl) rfl #[.int .i64 k, .agg #[.int .u64 n0, .string s0], .agg #[.int .u64 n1, .string s1]] (by rfl) rfl rfl (by (try simp only [List.map_toArray, List.map_cons, List.map_nil]); rfl) ?_
  refine (HX.out _ (below_step HB.out (Below.refl _ _))).mono ?_
  rintro e w2 ⟨rfl, hb⟩
  refine ⟨_, rfl, ?_⟩
  have m1 := below_step (Below.refl _ _) hb
  refine hK.out _ _ ⟨⟨(cell_of_below BP.out (blk_lt BP.out) m1 0).trans rfl, (cell_of_below BP.out (blk_lt BP.out) m1 1).trans rfl⟩, ⟨(cell_of_below BQ.out (blk_lt BQ.out) m1 0).trans rfl, (cell_of_below BQ.out (blk_lt BQ.out) m1 1).trans rfl⟩, (cell_of_below BR.out (blk_lt BR.out) m1 0).trans rfl, (cell_of_below BR.out (blk_lt BR.out) m1 1).trans rfl⟩ (fun hHeld => ?_)
  clear hK K
  refine norm_ (a' := ?_) ?_ ?_
  rotate_left
  · show Act.put _ (some 37) _ = _
    simp only [Act.put, List.setIfInBounds_toArray, List.set_cons_zero, List.set_cons_succ, i64_w, i32_w]
    rfl
  clear hb
  refine one_ (i := 7) (N := some 41) #[true, true, true, true, true, true, true, true, true, true, true, false, false, false, false] rfl rfl (one_of rfl (by kernel_rfl)) (by decide) (fun K hK => ?_)
  refine goes_ Tryd.func14 (by kernel_rfl) rfl #[.int .i64 k, .agg #[.int .u64 n1, .string s1], .agg #[.int .u64 n2, .string s2]] (by rfl) rfl rfl (by (try simp only [List.map_toArray, List.map_cons, List.map_nil]); rfl) ?_
  refine (HY.out _ (below_step HB.out m1)).mono ?_
  rintro e w2 ⟨rfl, hb⟩
  refine ⟨_, rfl, ?_⟩
  have m2 := below_step m1 hb
  refine hK.out _ _ ⟨⟨(cell_of_below BP.out (blk_lt BP.out) m2 0).trans rfl, (cell_of_below BP.out (blk_lt BP.out) m2 1).trans rfl⟩, ⟨(cell_of_below BQ.out (blk_lt BQ.out) m2 0).trans rfl, (cell_of_below BQ.out (blk_lt BQ.out) m2 1).trans rfl⟩, (cell_of_below BR.out (blk_lt BR.out) m2 0).trans rfl, (cell_of_below BR.out (blk_lt BR.out) m2 1).trans rfl⟩ (fun hHeld => ?_)
  clear hK K
  refine norm_ (a' := ?_) ?_ ?_
  rotate_left
  · show Act.put _ (some 41) _ = _
    simp only [Act.put, List.setIfInBounds_toArray, List.set_cons_zero, List.set_cons_succ, i64_w, i32_w]
    rfl
  clear hb
  refine one_ (i := 11) (N := some 45) #[true, true, true, true, true, true, true, true, true, true, true, true, false, false, false] rfl rfl (one_of rfl (by kernel_rfl)) (by decide) (fun K hK => ?_)
  refine goes_ Tryd.func14 (by kernel_rfl) rfl #[.int .i64 k, .agg #[.int .u64 n0, .string s0], .agg #[.int .u64 n2, .string s2]] (by rfl) rfl rfl (by (try simp only [List.map_toArray, List.map_cons, List.map_nil]); rfl) ?_
  refine (HZ.out _ (below_step HB.out m2)).mono ?_
  rintro e w2 ⟨rfl, hb⟩
  refine ⟨_, rfl, ?_⟩
  have m3 := below_step m2 hb
  refine hK.out _ _ ⟨⟨(cell_of_below BP.out (blk_lt BP.out) m3 0).trans rfl, (cell_of_below BP.out (blk_lt BP.out) m3 1).trans rfl⟩, ⟨(cell_of_below BQ.out (blk_lt BQ.out) m3 0).trans rfl, (cell_of_below BQ.out (blk_lt BQ.out) m3 1).trans rfl⟩, (cell_of_below BR.out (blk_lt BR.out) m3 0).trans rfl, (cell_of_below BR.out (blk_lt BR.out) m3 1).trans rfl⟩ (fun hHeld => ?_)
  clear hK K
  refine norm_ (a' := ?_) ?_ ?_
  rotate_left
  · show Act.put _ (some 45) _ = _
    simp only [Act.put, List.setIfInBounds_toArray, List.set_cons_zero, List.set_cons_succ, i64_w, i32_w]
    rfl
  clear hb
  refine pure_ (i := 12) (N := some 8) (v := ?_) (a' := ?_) #[true, true, true, true, true, true, true, true, true, true, true, true, true, false, false] rfl rfl (any_of rfl (by kernel_rfl)) (fun _ _ _ h => h) (Or.inl ⟨by rfl, ?_⟩) ?_ ?_
  rotate_left
  · intro w'
    go_simp
    with_reducible rfl
  rotate_left
  · simp only [Act.put, List.setIfInBounds_toArray, List.set_cons_zero, List.set_cons_succ, i64_w, i32_w]
    rfl
  refine pure_ (i := 13) (N := some 9) (v := ?_) (a' := ?_) #[true, true, true, true, true, true, true, true, true, true, true, true, true, true, false] rfl rfl (any_of rfl (by kernel_rfl)) (fun _ _ _ h => h) (Or.inl ⟨by rfl, ?_⟩) ?_ ?_
  rotate_left
  · intro w'
    go_simp
    with_reducible rfl
  rotate_left
  · simp only [Act.put, List.setIfInBounds_toArray, List.set_cons_zero, List.set_cons_succ, i64_w, i32_w]
    rfl
  refine pure_ (i := 14) (N := some 10) (v := ?_) (a' := ?_) #[true, true, true, true, true, true, true, true, true, true, true, true, true, true, true] rfl rfl (any_of rfl (by kernel_rfl)) (fun _ _ _ h => h) (Or.inl ⟨by rfl, ?_⟩) ?_ ?_
  rotate_left
  · intro w'
    go_simp
    with_reducible rfl
  rotate_left
  · simp only [Act.put, List.setIfInBounds_toArray, List.set_cons_zero, List.set_cons_succ, i64_w, i32_w]
    rfl
  refine done_ (done_of rfl (by kernel_rfl)) ?_
  replace BP := Aside0.mk (blk_below BP.out m3)
  replace BQ := Aside0.mk (blk_below BQ.out m3)
  replace HB := Aside0.mk (below_step HB.out m3)
  clear m3
  (try clear cp0 cp1 cq0 cq1)
  have cp0 : w2.cell? ⟨p, 0, none⟩ = some (.int .u64 n0) := (blk_cell BP.out 0).trans rfl
  have cp1 : w2.cell? ⟨p, 1, none⟩ = some (.string s0) := (blk_cell BP.out 1).trans rfl
  have cq0 : w2.cell? ⟨q, 0, none⟩ = some (.int .u64 n1) := (blk_cell BQ.out 0).trans rfl
  have cq1 : w2.cell? ⟨q, 1, none⟩ = some (.string s1) := (blk_cell BQ.out 1).trans rfl
  clear m1 m2 hHeld BR
  obtain ⟨o1, o2, o3, o4⟩ := O.out
  clear O
  have x3 : X = -1 ∨ X = 0 ∨ X = 1 := by omega
  have y3 : Y = -1 ∨ Y = 0 ∨ Y = 1 := by omega
  have z1 : X ≤ 0 → Y ≤ 0 → Z ≤ 0 ∧ (X < 0 ∨ Y < 0 → Z < 0) := o4
  have HZ2 := Aside0.mk z1
  have HO1 := Aside0.mk o1
  have HY3 := Aside0.mk y3
  clear o1 o2 o3 o4 y3 z1 HX HY HZ E H01 HC0 HC1 HC2
  rcases x3 with rfl | rfl | rfl
  · by_cases hn : n0 = n1
    · have hs : ¬ s0.toList = s1.toList := fun h => by
        rw [str_toList, str_toList] at h
        have := HO1.out.2 ⟨hn, data_inj h⟩
        omega
      have q0 : (n0 = n1) = True := eq_true hn
      have q1 : (s0.toList = s1.toList) = False := eq_false hs
      clear hs hn
      go_wp2_with fail
      refine (HV.out _ HB.out).mono ?_
      rintro e u3 ⟨rfl, hb⟩
      replace BP := Aside0.mk (blk_below BP.out hb)
      replace BQ := Aside0.mk (blk_below BQ.out hb)
      replace HB := Aside0.mk (below_step HB.out hb)
      clear hb
      (try clear cp0 cp1 cq0 cq1)
      have cp0 : u3.cell? ⟨p, 0, none⟩ = some (.int .u64 n0) := (blk_cell BP.out 0).trans rfl
      have cp1 : u3.cell? ⟨p, 1, none⟩ = some (.string s0) := (blk_cell BP.out 1).trans rfl
      have cq0 : u3.cell? ⟨q, 0, none⟩ = some (.int .u64 n1) := (blk_cell BQ.out 0).trans rfl
      have cq1 : u3.cell? ⟨q, 1, none⟩ = some (.string s1) := (blk_cell BQ.out 1).trans rfl
      obtain ⟨z0, zz⟩ : ∃ z0 : Int, Z = z0 := ⟨_, rfl⟩
      have y3 := HY3.out
      have z3 := HZ2.out
      clear HY3 HZ2 HO1 zz
      rcases y3 with rfl | rfl | rfl
      · obtain ⟨z4, z5⟩ := z3 (by decide) (by decide)
        have zt : decide (Z ≤ 0) = true := decide_eq_true z4
        have zu : decide (Z < 0) = true := decide_eq_true (z5 (by decide))
        clear z4 z5
        clear z3
        go_wp2_with fail
        refine (HAL.out _ HB.out).mono ?_
        rintro e wq ⟨rfl, hq⟩
        have hfin := below_step HB.out hq
        go_wp2_with fail
        go_ret
        exact ⟨rfl, hfin⟩
      · obtain ⟨z4, z5⟩ := z3 (by decide) (by decide)
        have zt : decide (Z ≤ 0) = true := decide_eq_true z4
        have zu : decide (Z < 0) = true := decide_eq_true (z5 (by decide))
        clear z4 z5
        clear z3
        go_wp2_with fail
        refine (HAL.out _ HB.out).mono ?_
        rintro e wq ⟨rfl, hq⟩
        have hfin := below_step HB.out hq
        go_wp2_with fail
        go_ret
        exact ⟨rfl, hfin⟩
      · clear z3
        go_wp2_with fail
        refine (HAL.out _ HB.out).mono ?_
        rintro e wq ⟨rfl, hq⟩
        have hfin := below_step HB.out hq
        go_wp2_with fail
        go_ret
        exact ⟨rfl, hfin⟩
    · have q1 : (n0 = n1) = False := eq_false hn
      clear hn
      go_wp2_with fail
      refine (HV.out _ HB.out).mono ?_
      rintro e u3 ⟨rfl, hb⟩
      replace BP := Aside0.mk (blk_below BP.out hb)
      replace BQ := Aside0.mk (blk_below BQ.out hb)
      replace HB := Aside0.mk (below_step HB.out hb)
      clear hb
      (try clear cp0 cp1 cq0 cq1)
      have cp0 : u3.cell? ⟨p, 0, none⟩ = some (.int .u64 n0) := (blk_cell BP.out 0).trans rfl
      have cp1 : u3.cell? ⟨p, 1, none⟩ = some (.string s0) := (blk_cell BP.out 1).trans rfl
      have cq0 : u3.cell? ⟨q, 0, none⟩ = some (.int .u64 n1) := (blk_cell BQ.out 0).trans rfl
      have cq1 : u3.cell? ⟨q, 1, none⟩ = some (.string s1) := (blk_cell BQ.out 1).trans rfl
      obtain ⟨z0, zz⟩ : ∃ z0 : Int, Z = z0 := ⟨_, rfl⟩
      have y3 := HY3.out
      have z3 := HZ2.out
      clear HY3 HZ2 HO1 zz
      rcases y3 with rfl | rfl | rfl
      · obtain ⟨z4, z5⟩ := z3 (by decide) (by decide)
        have zt : decide (Z ≤ 0) = true := decide_eq_true z4
        have zu : decide (Z < 0) = true := decide_eq_true (z5 (by decide))
        clear z4 z5
        clear z3
        go_wp2_with fail
        refine (HAL.out _ HB.out).mono ?_
        rintro e wq ⟨rfl, hq⟩
        have hfin := below_step HB.out hq
        go_wp2_with fail
        go_ret
        exact ⟨rfl, hfin⟩
      · obtain ⟨z4, z5⟩ := z3 (by decide) (by decide)
        have zt : decide (Z ≤ 0) = true := decide_eq_true z4
        have zu : decide (Z < 0) = true := decide_eq_true (z5 (by decide))
        clear z4 z5
        clear z3
        go_wp2_with fail
        refine (HAL.out _ HB.out).mono ?_
        rintro e wq ⟨rfl, hq⟩
        have hfin := below_step HB.out hq
        go_wp2_with fail
        go_ret
        exact ⟨rfl, hfin⟩
      · clear z3
        go_wp2_with fail
        refine (HAL.out _ HB.out).mono ?_
        rintro e wq ⟨rfl, hq⟩
        have hfin := below_step HB.out hq
        go_wp2_with fail
        go_ret
        exact ⟨rfl, hfin⟩
  · obtain ⟨hn, hs⟩ := HO1.out.1 rfl
    have q0 : (n0 = n1) = True := eq_true hn
    have q1 : (s0.toList = s1.toList) = True := eq_true (by rw [hs])
    clear hn hs
    go_wp2_with fail
    refine (HV.out _ HB.out).mono ?_
    rintro e u3 ⟨rfl, hb⟩
    replace BP := Aside0.mk (blk_below BP.out hb)
    replace BQ := Aside0.mk (blk_below BQ.out hb)
    replace HB := Aside0.mk (below_step HB.out hb)
    clear hb
    (try clear cp0 cp1 cq0 cq1)
    have cp0 : u3.cell? ⟨p, 0, none⟩ = some (.int .u64 n0) := (blk_cell BP.out 0).trans rfl
    have cp1 : u3.cell? ⟨p, 1, none⟩ = some (.string s0) := (blk_cell BP.out 1).trans rfl
    have cq0 : u3.cell? ⟨q, 0, none⟩ = some (.int .u64 n1) := (blk_cell BQ.out 0).trans rfl
    have cq1 : u3.cell? ⟨q, 1, none⟩ = some (.string s1) := (blk_cell BQ.out 1).trans rfl
    obtain ⟨z0, zz⟩ : ∃ z0 : Int, Z = z0 := ⟨_, rfl⟩
    have y3 := HY3.out
    have z3 := HZ2.out
    clear HY3 HZ2 HO1 zz
    rcases y3 with rfl | rfl | rfl
    · obtain ⟨z4, z5⟩ := z3 (by decide) (by decide)
      have zt : decide (Z ≤ 0) = true := decide_eq_true z4
      have zu : decide (Z < 0) = true := decide_eq_true (z5 (by decide))
      clear z4 z5
      clear z3
      go_wp2_with fail
      refine (HAL.out _ HB.out).mono ?_
      rintro e wq ⟨rfl, hq⟩
      have hfin := below_step HB.out hq
      go_wp2_with fail
      go_ret
      exact ⟨rfl, hfin⟩
    · obtain ⟨z4, z5⟩ := z3 (by decide) (by decide)
      have zt : decide (Z ≤ 0) = true := decide_eq_true z4
      clear z4 z5
      clear z3
      go_wp2_with fail
      refine (HAL.out _ HB.out).mono ?_
      rintro e wq ⟨rfl, hq⟩
      have hfin := below_step HB.out hq
      go_wp2_with fail
      go_ret
      exact ⟨rfl, hfin⟩
    · clear z3
      go_wp2_with fail
      refine (HAL.out _ HB.out).mono ?_
      rintro e wq ⟨rfl, hq⟩
      have hfin := below_step HB.out hq
      go_wp2_with fail
      go_ret
      exact ⟨rfl, hfin⟩
  · by_cases hn : n0 = n1
    · have hs : ¬ s0.toList = s1.toList := fun h => by
        rw [str_toList, str_toList] at h
        have := HO1.out.2 ⟨hn, data_inj h⟩
        omega
      have q0 : (n0 = n1) = True := eq_true hn
      have q1 : (s0.toList = s1.toList) = False := eq_false hs
      clear hs hn
      go_wp2_with fail
      refine (HV.out _ HB.out).mono ?_
      rintro e u3 ⟨rfl, hb⟩
      replace BP := Aside0.mk (blk_below BP.out hb)
      replace BQ := Aside0.mk (blk_below BQ.out hb)
      replace HB := Aside0.mk (below_step HB.out hb)
      clear hb
      (try clear cp0 cp1 cq0 cq1)
      have cp0 : u3.cell? ⟨p, 0, none⟩ = some (.int .u64 n0) := (blk_cell BP.out 0).trans rfl
      have cp1 : u3.cell? ⟨p, 1, none⟩ = some (.string s0) := (blk_cell BP.out 1).trans rfl
      have cq0 : u3.cell? ⟨q, 0, none⟩ = some (.int .u64 n1) := (blk_cell BQ.out 0).trans rfl
      have cq1 : u3.cell? ⟨q, 1, none⟩ = some (.string s1) := (blk_cell BQ.out 1).trans rfl
      obtain ⟨z0, zz⟩ : ∃ z0 : Int, Z = z0 := ⟨_, rfl⟩
      have y3 := HY3.out
      have z3 := HZ2.out
      clear HY3 HZ2 HO1 zz
      rcases y3 with rfl | rfl | rfl
      · clear z3
        go_wp2_with fail
        refine (HAL.out _ HB.out).mono ?_
        rintro e wq ⟨rfl, hq⟩
        have hfin := below_step HB.out hq
        go_wp2_with fail
        go_ret
        exact ⟨rfl, hfin⟩
      · clear z3
        go_wp2_with fail
        refine (HAL.out _ HB.out).mono ?_
        rintro e wq ⟨rfl, hq⟩
        have hfin := below_step HB.out hq
        go_wp2_with fail
        go_ret
        exact ⟨rfl, hfin⟩
      · clear z3
        go_wp2_with fail
        refine (HAL.out _ HB.out).mono ?_
        rintro e wq ⟨rfl, hq⟩
        have hfin := below_step HB.out hq
        go_wp2_with fail
        go_ret
        exact ⟨rfl, hfin⟩
    · have q1 : (n0 = n1) = False := eq_false hn
      clear hn
      go_wp2_with fail
      refine (HV.out _ HB.out).mono ?_
      rintro e u3 ⟨rfl, hb⟩
      replace BP := Aside0.mk (blk_below BP.out hb)
      replace BQ := Aside0.mk (blk_below BQ.out hb)
      replace HB := Aside0.mk (below_step HB.out hb)
      clear hb
      (try clear cp0 cp1 cq0 cq1)
      have cp0 : u3.cell? ⟨p, 0, none⟩ = some (.int .u64 n0) := (blk_cell BP.out 0).trans rfl
      have cp1 : u3.cell? ⟨p, 1, none⟩ = some (.string s0) := (blk_cell BP.out 1).trans rfl
      have cq0 : u3.cell? ⟨q, 0, none⟩ = some (.int .u64 n1) := (blk_cell BQ.out 0).trans rfl
      have cq1 : u3.cell? ⟨q, 1, none⟩ = some (.string s1) := (blk_cell BQ.out 1).trans rfl
      obtain ⟨z0, zz⟩ : ∃ z0 : Int, Z = z0 := ⟨_, rfl⟩
      have y3 := HY3.out
      have z3 := HZ2.out
      clear HY3 HZ2 HO1 zz
      rcases y3 with rfl | rfl | rfl
      · clear z3
        go_wp2_with fail
        refine (HAL.out _ HB.out).mono ?_
        rintro e wq ⟨rfl, hq⟩
        have hfin := below_step HB.out hq
        go_wp2_with fail
        go_ret
        exact ⟨rfl, hfin⟩
      · clear z3
        go_wp2_with fail
        refine (HAL.out _ HB.out).mono ?_
        rintro e wq ⟨rfl, hq⟩
        have hfin := below_step HB.out hq
        go_wp2_with fail
        go_ret
        exact ⟨rfl, hfin⟩
      · clear z3
        go_wp2_with fail
        refine (HAL.out _ HB.out).mono ?_
        rintro e wq ⟨rfl, hq⟩
        have hfin := below_step HB.out hq
        go_wp2_with fail
        go_ret
        exact ⟨rfl, hfin⟩
end Go.Proofs.YtnmjelcicbfjdaaDoor.Ce
