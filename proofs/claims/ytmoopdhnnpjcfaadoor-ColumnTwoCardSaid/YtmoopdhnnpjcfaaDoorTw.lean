import Derived.Test.YtmoopdhnnpjcfaaDoorBk
import Derived.Test.YtmoopdhnnpjcfaaDoorTwC
/-! ColumnTwo: the call. -/
namespace Go.Proofs.YtmoopdhnnpjcfaaDoor.Tw
open Go.RowKit Go.Proofs.YtmoopdhnnpjcfaaDoorW.PrintWords Go.Proofs.YtmoopdhnnpjcfaaDoorW.PrintLast Go.Proofs.YtmoopdhnnpjcfaaDoorW.PrintMore Go.Proofs.YtmoopdhnnpjcfaaDoor.Wire Go.Proofs.YtmoopdhnnpjcfaaDoor.PCo Go.Proofs.YtmoopdhnnpjcfaaDoor.CoG Go.Proofs.YtmoopdhnnpjcfaaDoor.Rd Go.Proofs.YtmoopdhnnpjcfaaDoor.Co Go.Proofs.YtmoopdhnnpjcfaaDoor.Bk
set_option linter.unusedVariables false
set_option linter.unusedSimpArgs false
set_option maxRecDepth 100000
theorem puts2 {W U : World} {x y : Nat} (hb : Below W.heap.size W U) (hx : U.heap[x]? = some (.cells #[.int .i64 0] 3 (0, 0))) (hy : U.heap[y]? = some (.cells #[.int .i64 0] 3 (0, 0))) (hne : x ≠ y) (h1 : W.heap.size ≤ x) (h2 : W.heap.size ≤ y) (P Q : Int) :
    (U.setCell ⟨x, 0, none⟩ (.int .i64 P)).heap[y]? = some (.cells #[.int .i64 0] 3 (0, 0)) ∧ Below W.heap.size W (U.setCell ⟨x, 0, none⟩ (.int .i64 P)) ∧
      ((U.setCell ⟨x, 0, none⟩ (.int .i64 P)).setCell ⟨y, 0, none⟩ (.int .i64 Q)).heap[x]? = some (.cells #[.int .i64 P] 3 (0, 0)) ∧ ((U.setCell ⟨x, 0, none⟩ (.int .i64 P)).setCell ⟨y, 0, none⟩ (.int .i64 Q)).heap[y]? = some (.cells #[.int .i64 Q] 3 (0, 0)) ∧
      Below W.heap.size W ((U.setCell ⟨x, 0, none⟩ (.int .i64 P)).setCell ⟨y, 0, none⟩ (.int .i64 Q)) := by
  have hy' : (U.setCell ⟨x, 0, none⟩ (.int .i64 P)).heap[y]? = some (.cells #[.int .i64 0] 3 (0, 0)) := (Below.heap_setCell U ⟨x, 0, none⟩ (.int .i64 P) y (fun e => hne e.symm)).trans hy
  have hb1 := below_set (j := 0) (v := .int .i64 P) hb h1
  exact ⟨hy', hb1, (Below.heap_setCell (U.setCell ⟨x, 0, none⟩ (.int .i64 P)) ⟨y, 0, none⟩ (.int .i64 Q) x hne).trans (blk_put hx 0 (.int .i64 P) rfl), blk_put hy' 0 (.int .i64 Q) rfl, below_set hb1 h2⟩
/-- What is written of cells that may be is taken. -/
theorem good_ {l : List S47} (k : Int) (hl : l.length ≤ 900) (hnum : ∀ j, j < l.length → 0 ≤ nm l j ∧ nm l j < 18446744073709551616) (he : wErr k l = 0) :
    Bytes (wBytes k l) ∧ (wBytes k l).length ≤ 1000000 ∧ ∀ (L B : List Int) (a0 : Nat), L.drop a0 = wBytes k l ++ B → tk L k (l.length : Int) a0 = (l, a0 + (wBytes k l).length, 0) := by
  have hk : 0 ≤ k ∧ k ≤ 5 := by
    by_cases h : 0 ≤ k ∧ k ≤ 5
    · exact h
    · rw [wErr, if_neg h] at he; simp at he
  have hw : wBytes k l = wrote k l := by rw [wBytes, if_pos he]
  have hf : fe k l l.length = 0 := by rw [wErr, if_pos hk] at he; exact he
  have hts : ∀ j, j < l.length → (tx l j).size ≤ 256 := fun j hj => chk_small (fe_all hf j hj)
  have h0 : 0 ≤ nm l 0 ∧ nm l 0 < 18446744073709551616 := by
    by_cases hz : 0 < l.length
    · exact hnum 0 hz
    · have : l = [] := List.eq_nil_of_length_eq_zero (by omega)
      rw [this]; exact ⟨by decide, by decide⟩
  rw [hw]
  refine ⟨wrote_bytes hnum hf, ?_, fun L B a0 h => tk_back a0 hk (by omega) hf hnum h⟩
  have := wrote_len hk hts h0
  have := tsum_le hts l.length (Nat.le_refl _)
  omega
theorem cell_of_below {W U : World} {x : Nat} {cs : Array Value} {t : TypeId} (h : W.heap[x]? = some (.cells cs t (0, 0))) (hb : Below W.heap.size W U) (j : Nat) : U.cell? ⟨x, j, none⟩ = cs[j]? := blk_cell (blk_below h hb) j
set_option maxHeartbeats 16000000 in
theorem two_calls (k0 k1 : Int) {A A' : Option Addr} {c c' : Nat} {l l' : List S47} (w : World) (hU : UtfW w) (hk0 : 0 ≤ k0 ∧ k0 < 256) (hk1 : 0 ≤ k1 ∧ k1 < 256)
    (hr : Kd.C k47 w A l.length l) (hc : l.length ≤ c) (hr' : Kd.C k47 w A' l'.length l') (hc' : l'.length ≤ c')
    (hlen : l.length ≤ 5864062014635) (htx : ∀ i, (tx l i).size ≤ 140737488351232) (hnum : ∀ i, 0 ≤ nm l i ∧ nm l i < 18446744073709551616) (hlen' : l'.length ≤ 5864062014635) (htx' : ∀ i, (tx l' i).size ≤ 140737488351232) (hnum' : ∀ i, 0 ≤ nm l' i ∧ nm l' i < 18446744073709551616) :
    Calls Tryd.prog 6 #[.agg #[.int .u8 k0, .int .u8 k1], .slice A l.length c, .slice A' l'.length c'] w fun e w' => e = .returned (.bool true) ∧ Below w.heap.size w w' := by
  have HU := Aside0.mk hU
  have HR := Aside0.mk hr
  have HR' := Aside0.mk hr'
  have HCC := Aside0.mk (And.intro hc hc')
  have HG1 := Aside0.mk (fun (W : World) (hb : Below w.heap.size w W) => great_calls (c := c) W (Kd.C_below hr hb) (by omega) htx)
  have HG2 := Aside0.mk (fun (W : World) (hb : Below w.heap.size w W) => great_calls (c := c') W (Kd.C_below hr' hb) (by omega) htx')
  have HW1 := Aside0.mk (fun (k : Int) (hg : ¬ gs l l.length > 5000) (W : World) (hb : Below w.heap.size w W) => write_calls' k W (Kd.C_below hr hb) hc (by omega) (fun i => by have := htx i; omega) (fun he => (small_write hlen hg he).1) (hnum 0) (hU.below hb))
  have HW2 := Aside0.mk (fun (k : Int) (hg : ¬ gs l' l'.length > 5000) (W : World) (hb : Below w.heap.size w W) => write_calls' k W (Kd.C_below hr' hb) hc' (by omega) (fun i => by have := htx' i; omega) (fun he => (small_write hlen' hg he).1) (hnum' 0) (hU.below hb))
  have HFA := Aside0.mk (fun (k : Int) (n : Nat) (hl : l.length ≤ 900) (he : wErr k l = 0) => good_ k hl (fun j _ => hnum j) he)
  have HFB := Aside0.mk (fun (k : Int) (n : Nat) (hl : l'.length ≤ 900) (he : wErr k l' = 0) => good_ k hl (fun j _ => hnum' j) he)
  obtain ⟨n, hn⟩ : ∃ n, l.length = n := ⟨_, rfl⟩
  obtain ⟨n', hn'⟩ : ∃ n', l'.length = n' := ⟨_, rfl⟩
  have HN := Aside0.mk hn
  have HN' := Aside0.mk hn'
  rw [hn, hn']
  rw [hn] at HG1 HW1 HFA
  rw [hn'] at HG2 HW2 HFB
  clear hU hr hr' hn hn' hc hc' hlen htx hnum hlen' htx' hnum'
  go_enter Tryd.func6, Tryd.ntmps6
  go_wp2_with fail
  have hba0 := below_alloc (Below.refl w.heap.size w) (.cells #[.int .u8 k0, .int .u8 k1] 38)
  have hx0 : ((w.alloc (.cells #[.int .u8 k0, .int .u8 k1] 38)).alloc (.cells #[.slice A n c] 22)).alloc (.cells #[.slice A' n' c'] 22) |>.heap[w.heap.size]? = some (.cells #[.int .u8 k0, .int .u8 k1] 38 (0, 0)) := blk_alloc (blk_alloc (heap_alloc_new w _) _) _
  have hx1 : ((w.alloc (.cells #[.int .u8 k0, .int .u8 k1] 38)).alloc (.cells #[.slice A n c] 22)).alloc (.cells #[.slice A' n' c'] 22) |>.heap[w.heap.size + 1]? = some (.cells #[.slice A n c] 22 (0, 0)) := blk_alloc (by simpa using heap_alloc_new (w.alloc (.cells #[.int .u8 k0, .int .u8 k1] 38)) (.cells #[.slice A n c] 22)) _
  have hx2 : ((w.alloc (.cells #[.int .u8 k0, .int .u8 k1] 38)).alloc (.cells #[.slice A n c] 22)).alloc (.cells #[.slice A' n' c'] 22) |>.heap[w.heap.size + 1 + 1]? = some (.cells #[.slice A' n' c'] 22 (0, 0)) := by simpa [Nat.add_assoc] using heap_alloc_new ((w.alloc (.cells #[.int .u8 k0, .int .u8 k1] 38)).alloc (.cells #[.slice A n c] 22)) (.cells #[.slice A' n' c'] 22)
  have hbw := below_alloc (below_alloc hba0 (.cells #[.slice A n c] 22)) (.cells #[.slice A' n' c'] 22)
  obtain ⟨W3, hW3⟩ : ∃ W3, ((w.alloc (.cells #[.int .u8 k0, .int .u8 k1] 38)).alloc (.cells #[.slice A n c] 22)).alloc (.cells #[.slice A' n' c'] 22) = W3 := ⟨_, rfl⟩
  rw [hW3] at hx0 hx1 hx2 hbw ⊢
  clear hW3 hba0
  have HX0 := Aside0.mk (show W3.drew.heap[w.heap.size]? = _ from hx0)
  have HX1 := Aside0.mk (show W3.drew.heap[w.heap.size + 1]? = _ from hx1)
  have HX2 := Aside0.mk (show W3.drew.heap[w.heap.size + 1 + 1]? = _ from hx2)
  have HBW := Aside0.mk (show Below w.heap.size w W3.drew from below_drew1 hbw)
  clear hx0 hx1 hx2 hbw
  refine start_ (n := 12) (S := fun w' => w'.cell? ⟨w.heap.size, 0, none⟩ = some (.int .u8 k0) ∧ w'.cell? ⟨w.heap.size, 1, none⟩ = some (.int .u8 k1)) (ds := []) #[false, false, false, false, false, false, false, false, false, false, false, false] (by kernel_rfl) rfl rfl ⟨(blk_cell HX0.out 0).trans rfl, (blk_cell HX0.out 1).trans rfl⟩ (fun hHeld => ?_)
  generalize W3.drew = W at *
  clear W3
  refine pure_ (i := 0) (N := some 17) (v := ?_) (a' := ?_) #[true, false, false, false, false, false, false, false, false, false, false, false] rfl rfl (any_of rfl (by kernel_rfl)) (fun _ _ _ h => h) (Or.inl ⟨by rfl, ?_⟩) ?_ ?_
  rotate_left
  · intro w'
    go_simp
    with_reducible rfl
  rotate_left
  · simp only [Act.put, List.setIfInBounds_toArray, List.set_cons_zero, List.set_cons_succ, i64_w, i32_w]
    rfl
  refine take_ (i := 1) (N := some 18) (v := ?_) (a' := ?_) #[true, true, false, false, false, false, false, false, false, false, false, false] rfl rfl (take_of rfl (by kernel_rfl)) (fun _ _ _ h => h) (Or.inl ⟨by rfl, ?_⟩) hHeld ?_ ?_
  rotate_left
  · rintro w' ⟨s0, s1⟩
    go_simp
    with_reducible rfl
  rotate_left
  · simp only [Act.put, List.setIfInBounds_toArray, List.set_cons_zero, List.set_cons_succ, i64_w, i32_w]
    rfl
  refine pure_ (i := 2) (N := some 19) (v := ?_) (a' := ?_) #[true, true, true, false, false, false, false, false, false, false, false, false] rfl rfl (any_of rfl (by kernel_rfl)) (fun _ _ _ h => h) (Or.inl ⟨by rfl, ?_⟩) ?_ ?_
  rotate_left
  · intro w'
    go_simp
    with_reducible rfl
  rotate_left
  · simp only [Act.put, List.setIfInBounds_toArray, List.set_cons_zero, List.set_cons_succ, i64_w, i32_w]
    rfl
  refine pure_ (i := 3) (N := some 20) (v := ?_) (a' := ?_) #[true, true, true, true, false, false, false, false, false, false, false, false] rfl rfl (any_of rfl (by kernel_rfl)) (fun _ _ _ h => h) (Or.inl ⟨by rfl, ?_⟩) ?_ ?_
  rotate_left
  · intro w'
    go_simp
    with_reducible rfl
  rotate_left
  · simp only [Act.put, List.setIfInBounds_toArray, List.set_cons_zero, List.set_cons_succ, i64_w, i32_w]
    rfl
  refine pure_ (i := 4) (N := some 21) (v := ?_) (a' := ?_) #[true, true, true, true, true, false, false, false, false, false, false, false] rfl rfl (any_of rfl (by kernel_rfl)) (fun _ _ _ h => h) (Or.inl ⟨by rfl, ?_⟩) ?_ ?_
  rotate_left
  · intro w'
    go_simp
    with_reducible rfl
  rotate_left
  · simp only [Act.put, List.setIfInBounds_toArray, List.set_cons_zero, List.set_cons_succ, i64_w, i32_w]
    rfl
  refine take_ (i := 5) (N := some 22) (v := ?_) (a' := ?_) #[true, true, true, true, true, true, false, false, false, false, false, false] rfl rfl (take_of rfl (by kernel_rfl)) (fun _ _ _ h => h) (Or.inl ⟨by rfl, ?_⟩) hHeld ?_ ?_
  rotate_left
  · rintro w' ⟨s0, s1⟩
    go_simp
    with_reducible rfl
  rotate_left
  · simp only [Act.put, List.setIfInBounds_toArray, List.set_cons_zero, List.set_cons_succ, i64_w, i32_w]
    rfl
  refine pure_ (i := 6) (N := some 23) (v := ?_) (a' := ?_) #[true, true, true, true, true, true, true, false, false, false, false, false] rfl rfl (any_of rfl (by kernel_rfl)) (fun _ _ _ h => h) (Or.inl ⟨by rfl, ?_⟩) ?_ ?_
  rotate_left
  · intro w'
    go_simp
    with_reducible rfl
  rotate_left
  · simp only [Act.put, List.setIfInBounds_toArray, List.set_cons_zero, List.set_cons_succ, i64_w, i32_w]
    rfl
  refine pure_ (i := 7) (N := some 24) (v := ?_) (a' := ?_) #[true, true, true, true, true, true, true, true, false, false, false, false] rfl rfl (any_of rfl (by kernel_rfl)) (fun _ _ _ h => h) (Or.inl ⟨by rfl, ?_⟩) ?_ ?_
  rotate_left
  · intro w'
    go_simp
    with_reducible rfl
  rotate_left
  · simp only [Act.put, List.setIfInBounds_toArray, List.set_cons_zero, List.set_cons_succ, i64_w, i32_w]
    rfl
  have hP0 : 0 ≤ wrap64 (k0.tmod 6) ∧ wrap64 (k0.tmod 6) ≤ 5 := by rw [Int.tmod_eq_emod_of_nonneg hk0.1, w64 (by omega) (by omega)]; omega
  have hQ0 : 0 ≤ wrap64 (k1.tmod 6) ∧ wrap64 (k1.tmod 6) ≤ 5 := by rw [Int.tmod_eq_emod_of_nonneg hk1.1, w64 (by omega) (by omega)]; omega
  obtain ⟨P, hP⟩ : ∃ P, wrap64 (k0.tmod 6) = P := ⟨_, rfl⟩
  obtain ⟨Q, hQ⟩ : ∃ Q, wrap64 (k1.tmod 6) = Q := ⟨_, rfl⟩
  rw [hP] at hP0 ⊢
  rw [hQ] at hQ0 ⊢
  obtain ⟨Y0, hY0⟩ : ∃ Y0, k0.tmod 6 = Y0 := ⟨_, rfl⟩
  obtain ⟨Y1, hY1⟩ : ∃ Y1, k1.tmod 6 = Y1 := ⟨_, rfl⟩
  rw [hY0, hY1]
  clear hP hQ hY0 hY1 hk0 hk1
  refine join_ (σ := Nat × Nat) 0 #[true, true, true, true, true, true, true, true, true, true, true, true] (fun s => [(7, .pointer (some ⟨s.1, 0, none⟩)), (8, .pointer (some ⟨s.2, 0, none⟩))]) (fun s w' => w'.heap[s.1]? = some (.cells #[.int .i64 P] 3 (0, 0)) ∧ w'.heap[s.2]? = some (.cells #[.int .i64 Q] 3 (0, 0)) ∧ Below W.heap.size W w') ?_ (fun hcont => ?_)
  rotate_left
  · refine two_ (i := 8) (j := 9) (Ni := some 7) (Nj := some 8) #[true, true, true, true, true, true, true, true, true, false, false, false] #[true, true, true, true, true, true, true, true, false, true, false, false] rfl rfl rfl rfl (two_of rfl (by kernel_rfl)) (by decide) (by decide) (fun K hK => ?_) (fun K hK => ?_)
    · refine value_ (v := .pointer (some ⟨W.heap.size, 0, none⟩)) (w1 := W.alloc (.cells #[.int .i64 0] 3)) (by rfl) rfl (by go_simp) ?_
      have hn1 := heap_alloc_new W (.cells #[.int .i64 0] 3)
      have hb1 := below_alloc (Below.refl W.heap.size W) (.cells #[.int .i64 0] 3)
      obtain ⟨U1, hU1⟩ : ∃ U1, W.alloc (.cells #[.int .i64 0] 3) = U1 := ⟨_, rfl⟩
      rw [hU1] at hn1 hb1 ⊢
      have hn2 := heap_alloc_new U1 (.cells #[.int .i64 0] 3)
      have hn1' := blk_alloc hn1 (.cells #[.int .i64 0] 3)
      have hb2 := below_alloc hb1 (.cells #[.int .i64 0] 3)
      have hlt := blk_lt hn1
      refine hK.out _ _ ⟨(cell_of_below HX0.out hb1 0).trans rfl, (cell_of_below HX0.out hb1 1).trans rfl⟩ (fun _ => ?_)
      clear hK K
      refine norm_ (a' := ?_) ?_ ?_
      rotate_left
      · show Act.put _ (some 7) _ = _
        simp only [Act.put, List.setIfInBounds_toArray, List.set_cons_zero, List.set_cons_succ, i64_w, i32_w]
        rfl
      refine one_ (i := 9) (N := some 8) #[true, true, true, true, true, true, true, true, true, true, false, false] rfl rfl (one_of rfl (by kernel_rfl)) (by decide) (fun K hK => ?_)
      refine value_ (v := .pointer (some ⟨U1.heap.size, 0, none⟩)) (w1 := U1.alloc (.cells #[.int .i64 0] 3)) (by rfl) rfl (by go_simp) ?_
      obtain ⟨U2, hU2⟩ : ∃ U2, U1.alloc (.cells #[.int .i64 0] 3) = U2 := ⟨_, rfl⟩
      rw [hU2] at hn2 hn1' hb2 ⊢
      refine hK.out _ _ ⟨(cell_of_below HX0.out hb2 0).trans rfl, (cell_of_below HX0.out hb2 1).trans rfl⟩ (fun _ => ?_)
      clear hK K
      refine norm_ (a' := ?_) ?_ ?_
      rotate_left
      · show Act.put _ (some 8) _ = _
        simp only [Act.put, List.setIfInBounds_toArray, List.set_cons_zero, List.set_cons_succ, i64_w, i32_w]
        rfl
      obtain ⟨g1, g2, g3, g4, g5⟩ := puts2 (x := W.heap.size) (y := U1.heap.size) hb2 hn1' hn2 (by omega) (by have := hb1.size; omega) (by have := hb1.size; omega) P Q
      have f1 : U2.cell? ⟨W.heap.size, 0, none⟩ = some (.int .i64 0) := (blk_cell hn1' 0).trans rfl
      have f2 := blk_frozen hn1' 0
      refine one_ (i := 10) (N := none) #[true, true, true, true, true, true, true, true, true, true, true, false] rfl rfl (one_of rfl (by kernel_rfl)) (by decide) (fun K hK => ?_)
      refine skip_ (w1 := ?_) (by rfl) rfl ?_ ?_
      rotate_left
      · go_simp
        rfl
      refine hK.out _ _ ⟨(cell_of_below HX0.out g2 0).trans rfl, (cell_of_below HX0.out g2 1).trans rfl⟩ (fun _ => ?_)
      clear hK K
      have f3 : (U2.setCell ⟨W.heap.size, 0, none⟩ (.int .i64 P)).cell? ⟨U1.heap.size, 0, none⟩ = some (.int .i64 0) := (blk_cell g1 0).trans rfl
      have f4 := blk_frozen g1 0
      refine one_ (i := 11) (N := none) #[true, true, true, true, true, true, true, true, true, true, true, true] rfl rfl (one_of rfl (by kernel_rfl)) (by decide) (fun K hK => ?_)
      refine skip_ (w1 := ?_) (by rfl) rfl ?_ ?_
      rotate_left
      · go_simp
        rfl
      refine hK.out _ _ ⟨(cell_of_below HX0.out g5 0).trans rfl, (cell_of_below HX0.out g5 1).trans rfl⟩ (fun _ => ?_)
      clear hK K
      exact hcont (W.heap.size, U1.heap.size) _ ⟨g3, g4, g5⟩
    · refine value_ (v := .pointer (some ⟨W.heap.size, 0, none⟩)) (w1 := W.alloc (.cells #[.int .i64 0] 3)) (by rfl) rfl (by go_simp) ?_
      have hn1 := heap_alloc_new W (.cells #[.int .i64 0] 3)
      have hb1 := below_alloc (Below.refl W.heap.size W) (.cells #[.int .i64 0] 3)
      obtain ⟨U1, hU1⟩ : ∃ U1, W.alloc (.cells #[.int .i64 0] 3) = U1 := ⟨_, rfl⟩
      rw [hU1] at hn1 hb1 ⊢
      have hn2 := heap_alloc_new U1 (.cells #[.int .i64 0] 3)
      have hn1' := blk_alloc hn1 (.cells #[.int .i64 0] 3)
      have hb2 := below_alloc hb1 (.cells #[.int .i64 0] 3)
      have hlt := blk_lt hn1
      refine hK.out _ _ ⟨(cell_of_below HX0.out hb1 0).trans rfl, (cell_of_below HX0.out hb1 1).trans rfl⟩ (fun _ => ?_)
      clear hK K
      refine norm_ (a' := ?_) ?_ ?_
      rotate_left
      · show Act.put _ (some 8) _ = _
        simp only [Act.put, List.setIfInBounds_toArray, List.set_cons_zero, List.set_cons_succ, i64_w, i32_w]
        rfl
      refine one_ (i := 8) (N := some 7) #[true, true, true, true, true, true, true, true, true, true, false, false] rfl rfl (one_of rfl (by kernel_rfl)) (by decide) (fun K hK => ?_)
      refine value_ (v := .pointer (some ⟨U1.heap.size, 0, none⟩)) (w1 := U1.alloc (.cells #[.int .i64 0] 3)) (by rfl) rfl (by go_simp) ?_
      obtain ⟨U2, hU2⟩ : ∃ U2, U1.alloc (.cells #[.int .i64 0] 3) = U2 := ⟨_, rfl⟩
      rw [hU2] at hn2 hn1' hb2 ⊢
      refine hK.out _ _ ⟨(cell_of_below HX0.out hb2 0).trans rfl, (cell_of_below HX0.out hb2 1).trans rfl⟩ (fun _ => ?_)
      clear hK K
      refine norm_ (a' := ?_) ?_ ?_
      rotate_left
      · show Act.put _ (some 7) _ = _
        simp only [Act.put, List.setIfInBounds_toArray, List.set_cons_zero, List.set_cons_succ, i64_w, i32_w]
        rfl
      obtain ⟨g1, g2, g3, g4, g5⟩ := puts2 (x := U1.heap.size) (y := W.heap.size) hb2 hn2 hn1' (by omega) (by have := hb1.size; omega) (by have := hb1.size; omega) P Q
      have f1 : U2.cell? ⟨U1.heap.size, 0, none⟩ = some (.int .i64 0) := (blk_cell hn2 0).trans rfl
      have f2 := blk_frozen hn2 0
      refine one_ (i := 10) (N := none) #[true, true, true, true, true, true, true, true, true, true, true, false] rfl rfl (one_of rfl (by kernel_rfl)) (by decide) (fun K hK => ?_)
      refine skip_ (w1 := ?_) (by rfl) rfl ?_ ?_
      rotate_left
      · go_simp
        rfl
      refine hK.out _ _ ⟨(cell_of_below HX0.out g2 0).trans rfl, (cell_of_below HX0.out g2 1).trans rfl⟩ (fun _ => ?_)
      clear hK K
      have f3 : (U2.setCell ⟨U1.heap.size, 0, none⟩ (.int .i64 P)).cell? ⟨W.heap.size, 0, none⟩ = some (.int .i64 0) := (blk_cell g1 0).trans rfl
      have f4 := blk_frozen g1 0
      refine one_ (i := 11) (N := none) #[true, true, true, true, true, true, true, true, true, true, true, true] rfl rfl (one_of rfl (by kernel_rfl)) (by decide) (fun K hK => ?_)
      refine skip_ (w1 := ?_) (by rfl) rfl ?_ ?_
      rotate_left
      · go_simp
        rfl
      refine hK.out _ _ ⟨(cell_of_below HX0.out g5 0).trans rfl, (cell_of_below HX0.out g5 1).trans rfl⟩ (fun _ => ?_)
      clear hK K
      exact hcont (U1.heap.size, W.heap.size) _ ⟨g3, g4, g5⟩
  rintro ⟨bp, bq⟩ w5 ⟨hp5, hq5, hb5⟩
  refine done_ (done_of rfl (by kernel_rfl)) ?_
  simp only [putAll, Act.put, List.setIfInBounds_toArray, List.set_cons_zero, List.set_cons_succ]
  have B5 := Aside0.mk (below_step HBW.out hb5)
  have HP5 := Aside0.mk hp5
  have HQ5 := Aside0.mk hq5
  have HA5 := Aside0.mk (blk_below HX1.out hb5)
  have HV5 := Aside0.mk (blk_below HX2.out hb5)
  clear hp5 hq5 hb5 HX0 HX1 HX2 HBW hHeld
  (try clear cp cq ca cb)
  have cp : w5.cell? ⟨bp, 0, none⟩ = some (.int .i64 P) := (blk_cell HP5.out 0).trans rfl
  have cq : w5.cell? ⟨bq, 0, none⟩ = some (.int .i64 Q) := (blk_cell HQ5.out 0).trans rfl
  have ca : w5.cell? ⟨w.heap.size + 1, 0, none⟩ = some (.slice A n c) := (blk_cell HA5.out 0).trans rfl
  have cb : w5.cell? ⟨w.heap.size + 1 + 1, 0, none⟩ = some (.slice A' n' c') := (blk_cell HV5.out 0).trans rfl
  go_wp2_with fail
  refine (alive_calls _ (HU.out.below B5.out)).mono ?_
  rintro e w6 ⟨rfl, b6⟩
  have B6 := Aside0.mk (below_step B5.out b6)
  have HP6 := Aside0.mk (blk_below HP5.out b6)
  have HQ6 := Aside0.mk (blk_below HQ5.out b6)
  have HA6 := Aside0.mk (blk_below HA5.out b6)
  have HV6 := Aside0.mk (blk_below HV5.out b6)
  (try clear cp cq ca cb)
  have cp : w6.cell? ⟨bp, 0, none⟩ = some (.int .i64 P) := (blk_cell HP6.out 0).trans rfl
  have cq : w6.cell? ⟨bq, 0, none⟩ = some (.int .i64 Q) := (blk_cell HQ6.out 0).trans rfl
  have ca : w6.cell? ⟨w.heap.size + 1, 0, none⟩ = some (.slice A n c) := (blk_cell HA6.out 0).trans rfl
  have cb : w6.cell? ⟨w.heap.size + 1 + 1, 0, none⟩ = some (.slice A' n' c') := (blk_cell HV6.out 0).trans rfl
  clear b6
  by_cases hg1 : gs l n > 5000
  · rw [decide_eq_true hg1] at HG1
    clear hg1
    go_wp2_with fail
    refine (HG1.out _ B6.out).mono ?_
    rintro e w7 ⟨rfl, b7⟩
    have B7 := Aside0.mk (below_step B6.out b7)
    have HP7 := Aside0.mk (blk_below HP6.out b7)
    have HQ7 := Aside0.mk (blk_below HQ6.out b7)
    have HA7 := Aside0.mk (blk_below HA6.out b7)
    have HV7 := Aside0.mk (blk_below HV6.out b7)
    (try clear cp cq ca cb)
    have cp : w7.cell? ⟨bp, 0, none⟩ = some (.int .i64 P) := (blk_cell HP7.out 0).trans rfl
    have cq : w7.cell? ⟨bq, 0, none⟩ = some (.int .i64 Q) := (blk_cell HQ7.out 0).trans rfl
    have ca : w7.cell? ⟨w.heap.size + 1, 0, none⟩ = some (.slice A n c) := (blk_cell HA7.out 0).trans rfl
    have cb : w7.cell? ⟨w.heap.size + 1 + 1, 0, none⟩ = some (.slice A' n' c') := (blk_cell HV7.out 0).trans rfl
    clear b7
    go_wp2_with fail
    refine (alive_calls _ (HU.out.below B7.out)).mono ?_
    rintro e wq ⟨rfl, bq_⟩
    have BQ := Aside0.mk (below_step B7.out bq_)
    clear bq_
    go_wp2
    go_ret
    exact ⟨rfl, BQ.out⟩
  
  rw [decide_eq_false hg1] at HG1
  have HN1 := Aside0.mk hg1
  clear hg1
  go_wp2_with fail
  refine (HG1.out _ B6.out).mono ?_
  rintro e w7 ⟨rfl, b7⟩
  have B7 := Aside0.mk (below_step B6.out b7)
  have HP7 := Aside0.mk (blk_below HP6.out b7)
  have HQ7 := Aside0.mk (blk_below HQ6.out b7)
  have HA7 := Aside0.mk (blk_below HA6.out b7)
  have HV7 := Aside0.mk (blk_below HV6.out b7)
  (try clear cp cq ca cb)
  have cp : w7.cell? ⟨bp, 0, none⟩ = some (.int .i64 P) := (blk_cell HP7.out 0).trans rfl
  have cq : w7.cell? ⟨bq, 0, none⟩ = some (.int .i64 Q) := (blk_cell HQ7.out 0).trans rfl
  have ca : w7.cell? ⟨w.heap.size + 1, 0, none⟩ = some (.slice A n c) := (blk_cell HA7.out 0).trans rfl
  have cb : w7.cell? ⟨w.heap.size + 1 + 1, 0, none⟩ = some (.slice A' n' c') := (blk_cell HV7.out 0).trans rfl
  clear b7
  by_cases hg2 : gs l' n' > 5000
  · rw [decide_eq_true hg2] at HG2
    clear hg2
    go_wp2_with fail
    refine (HG2.out _ B7.out).mono ?_
    rintro e w8 ⟨rfl, b8⟩
    have B8 := Aside0.mk (below_step B7.out b8)
    have HP8 := Aside0.mk (blk_below HP7.out b8)
    have HQ8 := Aside0.mk (blk_below HQ7.out b8)
    have HA8 := Aside0.mk (blk_below HA7.out b8)
    have HV8 := Aside0.mk (blk_below HV7.out b8)
    (try clear cp cq ca cb)
    have cp : w8.cell? ⟨bp, 0, none⟩ = some (.int .i64 P) := (blk_cell HP8.out 0).trans rfl
    have cq : w8.cell? ⟨bq, 0, none⟩ = some (.int .i64 Q) := (blk_cell HQ8.out 0).trans rfl
    have ca : w8.cell? ⟨w.heap.size + 1, 0, none⟩ = some (.slice A n c) := (blk_cell HA8.out 0).trans rfl
    have cb : w8.cell? ⟨w.heap.size + 1 + 1, 0, none⟩ = some (.slice A' n' c') := (blk_cell HV8.out 0).trans rfl
    clear b8
    go_wp2_with fail
    refine (alive_calls _ (HU.out.below B8.out)).mono ?_
    rintro e wq ⟨rfl, bq_⟩
    have BQ := Aside0.mk (below_step B8.out bq_)
    clear bq_
    go_wp2
    go_ret
    exact ⟨rfl, BQ.out⟩
  
  rw [decide_eq_false hg2] at HG2
  have HN2 := Aside0.mk hg2
  clear hg2
  by_cases hm1 : 900 < n
  · have t1 : decide ((900 : Int) < (n : Int)) = true := decide_eq_true (by omega)
    have t2 : decide (900 < n) = true := decide_eq_true hm1
    clear hm1
    go_wp2_with fail
    refine (HG2.out _ B7.out).mono ?_
    rintro e w8 ⟨rfl, b8⟩
    have B8 := Aside0.mk (below_step B7.out b8)
    have HP8 := Aside0.mk (blk_below HP7.out b8)
    have HQ8 := Aside0.mk (blk_below HQ7.out b8)
    have HA8 := Aside0.mk (blk_below HA7.out b8)
    have HV8 := Aside0.mk (blk_below HV7.out b8)
    (try clear cp cq ca cb)
    have cp : w8.cell? ⟨bp, 0, none⟩ = some (.int .i64 P) := (blk_cell HP8.out 0).trans rfl
    have cq : w8.cell? ⟨bq, 0, none⟩ = some (.int .i64 Q) := (blk_cell HQ8.out 0).trans rfl
    have ca : w8.cell? ⟨w.heap.size + 1, 0, none⟩ = some (.slice A n c) := (blk_cell HA8.out 0).trans rfl
    have cb : w8.cell? ⟨w.heap.size + 1 + 1, 0, none⟩ = some (.slice A' n' c') := (blk_cell HV8.out 0).trans rfl
    clear b8
    go_wp2_with fail
    refine (alive_calls _ (HU.out.below B8.out)).mono ?_
    rintro e wq ⟨rfl, bq_⟩
    have BQ := Aside0.mk (below_step B8.out bq_)
    clear bq_
    go_wp2
    go_ret
    exact ⟨rfl, BQ.out⟩
  
  have t1 : decide ((900 : Int) < (n : Int)) = false := decide_eq_false (by omega)
  have t2 : decide (900 < n) = false := decide_eq_false hm1
  by_cases hm2 : 900 < n'
  · have t3 : decide ((900 : Int) < (n' : Int)) = true := decide_eq_true (by omega)
    have t4 : decide (900 < n') = true := decide_eq_true hm2
    clear hm2 hm1
    go_wp2_with fail
    refine (HG2.out _ B7.out).mono ?_
    rintro e w8 ⟨rfl, b8⟩
    have B8 := Aside0.mk (below_step B7.out b8)
    have HP8 := Aside0.mk (blk_below HP7.out b8)
    have HQ8 := Aside0.mk (blk_below HQ7.out b8)
    have HA8 := Aside0.mk (blk_below HA7.out b8)
    have HV8 := Aside0.mk (blk_below HV7.out b8)
    (try clear cp cq ca cb)
    have cp : w8.cell? ⟨bp, 0, none⟩ = some (.int .i64 P) := (blk_cell HP8.out 0).trans rfl
    have cq : w8.cell? ⟨bq, 0, none⟩ = some (.int .i64 Q) := (blk_cell HQ8.out 0).trans rfl
    have ca : w8.cell? ⟨w.heap.size + 1, 0, none⟩ = some (.slice A n c) := (blk_cell HA8.out 0).trans rfl
    have cb : w8.cell? ⟨w.heap.size + 1 + 1, 0, none⟩ = some (.slice A' n' c') := (blk_cell HV8.out 0).trans rfl
    clear b8
    go_wp2_with fail
    refine (alive_calls _ (HU.out.below B8.out)).mono ?_
    rintro e wq ⟨rfl, bq_⟩
    have BQ := Aside0.mk (below_step B8.out bq_)
    clear bq_
    go_wp2
    go_ret
    exact ⟨rfl, BQ.out⟩
  
  have t3 : decide ((900 : Int) < (n' : Int)) = false := decide_eq_false (by omega)
  have t4 : decide (900 < n') = false := decide_eq_false hm2
  go_wp2_with fail
  refine (HG2.out _ B7.out).mono ?_
  rintro e w8 ⟨rfl, b8⟩
  have B8 := Aside0.mk (below_step B7.out b8)
  have HP8 := Aside0.mk (blk_below HP7.out b8)
  have HQ8 := Aside0.mk (blk_below HQ7.out b8)
  have HA8 := Aside0.mk (blk_below HA7.out b8)
  have HV8 := Aside0.mk (blk_below HV7.out b8)
  (try clear cp cq ca cb)
  have cp : w8.cell? ⟨bp, 0, none⟩ = some (.int .i64 P) := (blk_cell HP8.out 0).trans rfl
  have cq : w8.cell? ⟨bq, 0, none⟩ = some (.int .i64 Q) := (blk_cell HQ8.out 0).trans rfl
  have ca : w8.cell? ⟨w.heap.size + 1, 0, none⟩ = some (.slice A n c) := (blk_cell HA8.out 0).trans rfl
  have cb : w8.cell? ⟨w.heap.size + 1 + 1, 0, none⟩ = some (.slice A' n' c') := (blk_cell HV8.out 0).trans rfl
  clear b8 HG1 HG2
  go_wp2_with fail
  refine (HW1.out P HN1.out _ B8.out).mono ?_
  rintro e w9 ⟨v9, rfl, hv9, b9⟩
  have B9 := Aside0.mk (below_step B8.out b9)
  have HP9 := Aside0.mk (blk_below HP8.out b9)
  have HQ9 := Aside0.mk (blk_below HQ8.out b9)
  have HA9 := Aside0.mk (blk_below HA8.out b9)
  have HV9 := Aside0.mk (blk_below HV8.out b9)
  (try clear cp cq ca cb)
  have cp : w9.cell? ⟨bp, 0, none⟩ = some (.int .i64 P) := (blk_cell HP9.out 0).trans rfl
  have cq : w9.cell? ⟨bq, 0, none⟩ = some (.int .i64 Q) := (blk_cell HQ9.out 0).trans rfl
  have ca : w9.cell? ⟨w.heap.size + 1, 0, none⟩ = some (.slice A n c) := (blk_cell HA9.out 0).trans rfl
  have cb : w9.cell? ⟨w.heap.size + 1 + 1, 0, none⟩ = some (.slice A' n' c') := (blk_cell HV9.out 0).trans rfl
  have V9 := Aside0.mk hv9
  obtain ⟨A9, c9, rfl⟩ := Kd.R_slice hv9
  clear b9 hv9 HW1
  go_wp2_with fail
  refine (HW2.out Q HN2.out _ B9.out).mono ?_
  rintro e w10 ⟨v10, rfl, hv10, b10⟩
  have B10 := Aside0.mk (below_step B9.out b10)
  have HP10 := Aside0.mk (blk_below HP9.out b10)
  have HQ10 := Aside0.mk (blk_below HQ9.out b10)
  have HA10 := Aside0.mk (blk_below HA9.out b10)
  have HV10 := Aside0.mk (blk_below HV9.out b10)
  (try clear cp cq ca cb)
  have cp : w10.cell? ⟨bp, 0, none⟩ = some (.int .i64 P) := (blk_cell HP10.out 0).trans rfl
  have cq : w10.cell? ⟨bq, 0, none⟩ = some (.int .i64 Q) := (blk_cell HQ10.out 0).trans rfl
  have ca : w10.cell? ⟨w.heap.size + 1, 0, none⟩ = some (.slice A n c) := (blk_cell HA10.out 0).trans rfl
  have cb : w10.cell? ⟨w.heap.size + 1 + 1, 0, none⟩ = some (.slice A' n' c') := (blk_cell HV10.out 0).trans rfl
  have V90 := Aside0.mk (Kd.R_below V9.out b10)
  have V10 := Aside0.mk hv10
  obtain ⟨A10, c10, rfl⟩ := Kd.R_slice hv10
  clear b10 hv10 HW2 V9
  by_cases hE1 : wErr P l = 0
  case neg =>
    obtain ⟨E1, hEE⟩ : ∃ E1, wErr P l = E1 := ⟨_, rfl⟩
    rw [hEE] at hE1 ⊢
    have v1 : (E1 != 0) = true := bne_iff_ne.mpr hE1
    clear hE1 hEE
    go_wp2
    go_ret
    exact ⟨rfl, B10.out⟩
  rw [hE1]
  by_cases hE2 : wErr Q l' = 0
  case neg =>
    obtain ⟨E2, hEE⟩ : ∃ E2, wErr Q l' = E2 := ⟨_, rfl⟩
    rw [hEE] at hE2 ⊢
    have v1 : (E2 != 0) = true := bne_iff_ne.mpr hE2
    clear hE2 hEE
    go_wp2
    go_ret
    exact ⟨rfl, B10.out⟩
  rw [hE2]
  obtain ⟨xb, xl, xt⟩ := HFA.out P n (by omega) hE1
  obtain ⟨yb, yl, yt⟩ := HFB.out Q n' (by omega) hE2
  obtain ⟨X, hX⟩ : ∃ X, wBytes P l = X := ⟨_, rfl⟩
  obtain ⟨Y, hY⟩ : ∃ Y, wBytes Q l' = Y := ⟨_, rfl⟩
  rw [hX] at xb xl xt V90 ⊢
  rw [hY] at yb yl yt V10 ⊢
  obtain ⟨nx, hnx⟩ : ∃ nx, X.length = nx := ⟨_, rfl⟩
  obtain ⟨ny, hny⟩ : ∃ ny, Y.length = ny := ⟨_, rfl⟩
  rw [hnx] at xl xt V90 ⊢
  rw [hny] at yl yt V10 ⊢
  have HNX := Aside0.mk hnx
  have HNY := Aside0.mk hny
  have XT := Aside0.mk xt
  have YT := Aside0.mk yt
  have XB := Aside0.mk xb
  have YB := Aside0.mk yb
  clear hE1 hE2 hX hY xt yt xb yb HFA HFB hnx hny hP0 hQ0
  obtain ⟨L, hLe⟩ : ∃ L, X ++ Y = L := ⟨_, rfl⟩
  have HLE := Aside0.mk (show ([] ++ X) ++ Y = L from by rw [List.nil_append]; exact hLe)
  have HLL := Aside0.mk (show L.length = nx + ny from by rw [← hLe, List.length_append, HNX.out, HNY.out])
  have HLB := Aside0.mk (show Bytes L from by rw [← hLe]; exact XB.out.app YB.out)
  have HT1 := Aside0.mk (show tk L P (n : Int) 0 = (l, nx, 0) from by
    have := XT.out L Y 0 (by rw [List.drop_zero]; exact hLe.symm)
    rwa [Nat.zero_add] at this)
  have HT2 := Aside0.mk (show tk L Q (n' : Int) nx = (l', nx + ny, 0) from by
    have := YT.out L [] nx (by rw [List.append_nil, ← hLe]; exact List.drop_left' HNX.out)
    exact this)
  clear hLe XT YT XB YB
  dsimp only
  iterate 56 go_step
  have hc0 : ((w10.alloc (.cells #[.slice none 0 0] 22)).alloc (.cells #[.slice none 0 0] 22)).heap[w10.heap.size]? = some (.cells #[.slice none 0 0] 22 (0, 0)) := blk_alloc (heap_alloc_new w10 _) _
  have hd0 : ((w10.alloc (.cells #[.slice none 0 0] 22)).alloc (.cells #[.slice none 0 0] 22)).heap[w10.heap.size + 1]? = some (.cells #[.slice none 0 0] 22 (0, 0)) := by simpa using heap_alloc_new (w10.alloc (.cells #[.slice none 0 0] 22)) (.cells #[.slice none 0 0] 22)
  have hbu := below_alloc (below_alloc (Below.refl w10.heap.size w10) (.cells #[.slice none 0 0] 22)) (.cells #[.slice none 0 0] 22)
  obtain ⟨V, hUe⟩ : ∃ V, (w10.alloc (.cells #[.slice none 0 0] 22)).alloc (.cells #[.slice none 0 0] 22) = V := ⟨_, rfl⟩
  rw [hUe] at hc0 hd0 hbu ⊢
  clear hUe
  have hbc0 : w.heap.size ≤ w10.heap.size := B10.out.size
  obtain ⟨bc, hbc⟩ : ∃ bc, w10.heap.size = bc := ⟨_, rfl⟩
  have BU := Aside0.mk (below_step B10.out hbu)
  have VX := Aside0.mk (Kd.R_bound (Kd.R_below V90.out hbu))
  have VY := Aside0.mk (Kd.R_bound (Kd.R_below V10.out hbu))
  have HPU := Aside0.mk (blk_below HP10.out hbu)
  have HQU := Aside0.mk (blk_below HQ10.out hbu)
  have HAU := Aside0.mk (blk_below HA10.out hbu)
  have HVU := Aside0.mk (blk_below HV10.out hbu)
  rw [hbc] at hc0 hd0 hbc0 ⊢
  have HCU := Aside0.mk hc0
  have HDU := Aside0.mk hd0
  have HBC := Aside0.mk hbc0
  have NBC := Aside0.mk (show w.heap.size + 1 + 1 < bc ∧ w.heap.size ≤ bc from by have := blk_lt HV10.out; omega)
  clear hc0 hd0 hbu hbc hbc0 cp cq ca cb V90 V10 HP10 HQ10 HA10 HV10 t1 t2 t3 t4
  have HE := Aside0.mk (empty_own V w.heap.size BU.out.size)
  have hba := below_alloc (Below.refl V.heap.size V) (.cells #[] 5)
  have BA := Aside0.mk (below_step BU.out hba)
  have VXA := Aside0.mk (Kd.R_below VX.out hba)
  have VYA := Aside0.mk (Kd.R_below VY.out hba)
  have HPA := Aside0.mk (blk_below HPU.out hba)
  have HQA := Aside0.mk (blk_below HQU.out hba)
  have HAA := Aside0.mk (blk_below HAU.out hba)
  have HVA := Aside0.mk (blk_below HVU.out hba)
  have HCA := Aside0.mk (blk_below HCU.out hba)
  have HDA := Aside0.mk (blk_below HDU.out hba)
  have LTS := Aside0.mk (And.intro (blk_lt HPU.out) (And.intro (blk_lt HQU.out) (And.intro (blk_lt HAU.out) (And.intro (blk_lt HVU.out) (And.intro (blk_lt HCU.out) (blk_lt HDU.out))))))
  clear hba
  iterate 8 go_step
  at_builtin
  (refine Kd.R_append_rows (Kd.int .u8) (w0 := w) w.heap.size rfl (.tmp 65) (.tmp 66) 25 5 (.int .u8 0) 1 rfl Tryd.underlying25 infoB rfl (by decide) (by omega) _ [] X A9 nx c9 (fun _ => True) (fun _ => False) rfl rfl HE.out (show _ from by have := (Kd.R_reads' VXA.out).2.2; rw [HNX.out] at this; exact this) (fun _ _ h => h) (fun _ h => h.elim) (fun _ _ => trivial) BA.out BA.out.size (by simp; omega) ?_; intro v11 w11 ho hb hg hat; have HO11 := Aside0.mk ho; have B11 := Aside0.mk hb; obtain ⟨l1, l2, l3, l4, l5, l6⟩ := LTS.out; have HP11 := Aside0.mk (blk_grown HPA.out hg (fun e => absurd (Option.some.inj e) (Nat.ne_of_lt l1))); have HQ11 := Aside0.mk (blk_grown HQA.out hg (fun e => absurd (Option.some.inj e) (Nat.ne_of_lt l2))); have HA11 := Aside0.mk (blk_grown HAA.out hg (fun e => absurd (Option.some.inj e) (Nat.ne_of_lt l3))); have HV11 := Aside0.mk (blk_grown HVA.out hg (fun e => absurd (Option.some.inj e) (Nat.ne_of_lt l4))); have HC11 := Aside0.mk (blk_grown HCA.out hg (fun e => absurd (Option.some.inj e) (Nat.ne_of_lt l5))); have HD11 := Aside0.mk (blk_grown HDA.out hg (fun e => absurd (Option.some.inj e) (Nat.ne_of_lt l6))); have VY11 := Aside0.mk (Kd.R_kept VYA.out (S := fun k => k = V.heap.size) ⟨hg.size, fun k hk hn => hg.block k hk (fun e => hn (Option.some.inj e))⟩ (fun k hk z => by have := hk.2.2.1; have z : k = V.heap.size := z; omega)); clear ho hb hg hat l1 l2 l3 l4 l5 l6 HPA HQA HAA HVA HCA HDA VXA VYA BA HE HPU HQU HAU HVU HCU HDU VX VY BU LTS)
  iterate 3 go_step
  at_builtin
  (refine Kd.R_append_rows (Kd.int .u8) (w0 := w) w.heap.size rfl (.tmp 67) (.tmp 68) 25 5 (.int .u8 0) 1 rfl Tryd.underlying25 infoB rfl (by decide) (by omega) _ ([] ++ X) Y A10 ny c10 (fun _ => True) (fun _ => False) rfl rfl HO11.out (show _ from by have := (Kd.R_reads' VY11.out).2.2; rw [HNY.out] at this; exact this) (fun _ _ h => h) (fun _ h => h.elim) (fun _ _ => trivial) B11.out B11.out.size (by rw [List.nil_append, HNX.out]; omega) ?_; intro v12 w12 ho hb hg hat; rw [HLE.out] at ho; have HO12 := Aside0.mk ho; have B12 := Aside0.mk hb; have HP12 := Aside0.mk (blk_grown HP11.out hg (Kd.R_ne HO11.out HP11.out (by decide))); have HQ12 := Aside0.mk (blk_grown HQ11.out hg (Kd.R_ne HO11.out HQ11.out (by decide))); have HA12 := Aside0.mk (blk_grown HA11.out hg (Kd.R_ne HO11.out HA11.out (by decide))); have HV12 := Aside0.mk (blk_grown HV11.out hg (Kd.R_ne HO11.out HV11.out (by decide))); have HC12 := Aside0.mk (blk_grown HC11.out hg (Kd.R_ne HO11.out HC11.out (by decide))); have HD12 := Aside0.mk (blk_grown HD11.out hg (Kd.R_ne HO11.out HD11.out (by decide))); obtain ⟨A12, c12, hs12⟩ := Kd.R_slice ho; subst hs12; clear ho hb hg hat HP11 HQ11 HA11 HV11 HC11 HD11 VY11 B11 HO11)
  have hcf : ∀ args w, (callFunc 28 args).run Tryd.prog w = .ok (.enter 28 args) w := fun _ _ => by kernel_rfl
  obtain ⟨-, hcap, hrow⟩ := Kd.R_reads' HO12.out
  have hncd : bc ≠ bc + 1 := by omega
  have hbcl := blk_lt HC12.out
  have hbdl := blk_lt HD12.out
  have hRun := run_rd (w0 := w12) (W := w12) (A := A12) (c := c12) (l := L) (fn := 28) (caps := #[.pointer (some ⟨bp, 0, none⟩), .pointer (some ⟨w.heap.size + 1, 0, none⟩), .pointer (some ⟨bc, 0, none⟩), .pointer (some ⟨bq, 0, none⟩), .pointer (some ⟨w.heap.size + 1 + 1, 0, none⟩), .pointer (some ⟨bc + 1, 0, none⟩)]) (Sx bc (bc + 1))
    (fun g h1 a w' => Dn w12.heap.size h1 bc (bc + 1) (nx + ny) l l' a w') (fun g h1 a er w' => False)
    (Below.refl _ _) hrow hcap HLB.out (by rw [HLL.out]; omega) (by rintro k (rfl | rfl) <;> omega) hcf
    (fun g W1 hrd hbw h1 h2 => by
      refine (two_closure hrd (HU.out.below B12.out) (fun v => HU.out.below (below_set B12.out HBC.out)) (Nat.le_of_eq HLL.out.symm) HT1.out HT2.out (blk_below HP12.out hbw) (blk_below HQ12.out hbw) (blk_below HA12.out hbw) (blk_below HV12.out hbw) (blk_below HC12.out hbw) (blk_below HD12.out hbw) (by omega) (by omega) hncd (by have := blk_lt HP12.out; omega) (by have := blk_lt HQ12.out; omega) (by have := blk_lt HA12.out; omega) (by have := blk_lt HV12.out; omega) (blk_ne HQ12.out HC12.out (by decide)) (by have := NBC.out.1; omega) hbcl (fun ad e _ z => Kd.R_ne HO12.out HC12.out (by decide) (by subst e; rw [← z]; rfl))).mono ?_
      intro e w' h
      exact h)
  have HRUN := Aside0.mk hRun
  clear hRun hcf hncd hbcl hbdl hcap hrow
  go_wp2_with fail
  refine HRUN.out.mono ?_
  rintro e w13 ⟨g, h1, a, er, w3, rfl, hg1, hg2, hg3, hkA, hkB, hat, ha, hcase⟩
  rcases hcase with ⟨⟨rfl, v, v', hv, hR, hv', hR'⟩, rfl⟩ | hno
  case inr => exact hno.elim
  have hbcl := blk_lt HC12.out
  have hbdl := blk_lt HD12.out
  have hnb := NBC.out
  have hR2 := Kd.R_kept hR hkB.kept (fun k hk z => by omega)
  have hR2' := Kd.R_kept hR' hkB.kept (fun k hk z => by omega)
  have hv2 := hkB.blk hv (by omega)
  have hv2' := hkB.blk hv' (by omega)
  have ba2 := hkA.blk HA12.out (by rintro (z | z) <;> omega)
  have bb2 := hkA.blk HV12.out (by rintro (z | z) <;> omega)
  obtain ⟨B, d, rfl, hd, hrw⟩ := Kd.R_reads hR2
  obtain ⟨B', d', rfl, hd', hrw'⟩ := Kd.R_reads hR2'
  have BF := Aside0.mk (hkA.to_below B12.out (by rintro k (rfl | rfl) <;> omega))
  have HS1 := Aside0.mk (same_calls (c0 := c) (by rw [HN.out]; omega) w13 (Kd.C_below HR.out BF.out) HCC.out.1 hrw hd)
  have HS2 := Aside0.mk (fun (W : World) (hb : Below w13.heap.size w13 W) => same_calls (c0 := c') (by rw [HN'.out]; omega) W (Kd.C_below HR'.out (below_step BF.out hb)) HCC.out.2 (Kd.C_below hrw' hb) hd')
  rw [HN.out] at HS1 hv2
  rw [HN'.out] at HS2 hv2'
  rw [if_neg (by rw [HLL.out]; omega)]
  have z1 : (((nx + ny : Nat) : Int) == wrap64 ((nx : Int) + (ny : Int))) = true := by rw [w64 (by omega) (by omega)]; exact beq_iff_eq.mpr (by omega)
  have c1 : w13.cell? ⟨w.heap.size + 1, 0, none⟩ = some (.slice A n c) := (blk_cell ba2 0).trans rfl
  have c2 : w13.cell? ⟨bc, 0, none⟩ = some (.slice B n d) := (blk_cell hv2 0).trans rfl
  have HB2 := Aside0.mk bb2
  have HV2 := Aside0.mk hv2'
  clear hg1 hg2 hg3 hkA hkB hat ha hv hv' hR hR' hR2 hR2' hbcl hbdl hnb hv2 hv2' ba2 bb2 hrw hrw' hd hd'
  go_wp2_with fail
  refine HS1.out.mono ?_
  rintro e w14 ⟨rfl, b14⟩
  have c3 : w14.cell? ⟨w.heap.size + 1 + 1, 0, none⟩ = some (.slice A' n' c') := (blk_cell (blk_below HB2.out b14) 0).trans rfl
  have c4 : w14.cell? ⟨bc + 1, 0, none⟩ = some (.slice B' n' d') := (blk_cell (blk_below HV2.out b14) 0).trans rfl
  have HS3 := Aside0.mk (HS2.out w14 b14)
  have BG := Aside0.mk (below_step BF.out b14)
  clear b14 HS1 HS2 c1 c2
  go_wp2_with fail
  refine HS3.out.mono ?_
  rintro e w15 ⟨rfl, b15⟩
  have BH := Aside0.mk (below_step BG.out b15)
  clear b15 c3 c4 HS3
  go_wp2
  go_ret
  exact ⟨rfl, BH.out⟩
end Go.Proofs.YtmoopdhnnpjcfaaDoor.Tw
