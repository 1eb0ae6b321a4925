import Derived.Test.YtciolchdihlgfaaGreatDoorTxI
/-! Cell: Read. -/
namespace Go.Proofs.YtciolchdihlgfaaGreatDoor.Tx
open Go.RowKit Go.Proofs.YtciolchdihlgfaaGreatDoorW.PrintWords Go.Proofs.YtciolchdihlgfaaGreatDoorW.PrintLast Go.Proofs.YtciolchdihlgfaaGreatDoorW.PrintMore Go.Proofs.YtciolchdihlgfaaGreatDoor.Wire Go.Proofs.YtciolchdihlgfaaGreatDoor.PCo Go.Proofs.YtciolchdihlgfaaGreatDoor.Co Go.Proofs.YtciolchdihlgfaaGreatDoor.Ce Go.Proofs.YtciolchdihlgfaaGreatDoor.Num
set_option linter.unusedVariables false
set_option linter.unusedSimpArgs false
set_option maxRecDepth 100000
set_option maxHeartbeats 8000000
theorem kindly_calls (k : Int) (w : World) : Calls Tryz.prog 66 #[.int .i64 k] w fun e w' => e = .returned (.bool (decide (0 ≤ k ∧ k < 6))) ∧ w' = w := by
  by_cases h0 : k < 0
  · have t1 : decide (k > -1) = false := decide_eq_false (by omega)
    have t2 : decide (0 ≤ k ∧ k < 6) = false := decide_eq_false (by omega)
    have t3 : ¬ (-1 < k) := by omega
    rw [t2]
    go_enter Tryz.func66, Tryz.ntmps66
    go_wp2
    go_ret
    exact ⟨rfl, rfl⟩
  by_cases h5 : 5 < k
  · have t1 : decide (k > -1) = true := decide_eq_true (by omega)
    have t2 : decide (0 ≤ k ∧ k < 6) = false := decide_eq_false (by omega)
    have t3 : decide (k ≤ 5) = false := decide_eq_false (by omega)
    rw [t2]
    go_enter Tryz.func66, Tryz.ntmps66
    go_wp2
    go_ret
    exact ⟨rfl, rfl⟩
  · have t1 : decide (k > -1) = true := decide_eq_true (by omega)
    have t2 : decide (0 ≤ k ∧ k < 6) = true := decide_eq_true (by omega)
    have t3 : decide (k ≤ 5) = true := decide_eq_true (by omega)
    rw [t2]
    go_enter Tryz.func66, Tryz.ntmps66
    go_wp2
    go_ret
    exact ⟨rfl, rfl⟩
theorem Read_calls (k : Int) (s : ByteArray) (hs : s.size ≤ 2000000) (w : World) (hT : PowW w) (hB : BitW w) (hU : UtfW w) (hE : ErrW w) :
    Calls Tryz.prog 20 #[.int .i64 k, .string s] w fun e w' => ∃ (n : Int) (t : ByteArray) (er : Int), crd k s.data.toList = (n, t, er) ∧ e = .returned (.tuple #[.agg #[.int .u64 n, .string t], .int .i64 er]) ∧ Below w.heap.size w w' := by
  have HK := Aside0.mk (fun (W : World) => kindly_calls k W)
  by_cases hk : 0 ≤ k ∧ k < 6
  · rw [decide_eq_true hk] at HK
    have HR := Aside0.mk (fun (W : World) (hb : Below w.heap.size w W) => read_calls k s hs W (hE.below hb))
    cases hr : rdv k s.data.toList with
    | none =>
      rw [hr] at HR
      have HC := Aside0.mk (crd_no_ (l := s.data.toList) hk (by rw [hr]; simp))
      clear hk hs hT hB hU hE hr
      go_enter Tryz.func20, Tryz.ntmps20
      go_wp2_with (((with_reducible refine gate_dst (N := 4) rfl ?_); refine box_event ?hg (N := 4) ?hd (cs := #[.int .u64 0, .string (⟨#[]⟩ : ByteArray)]) (t := 24) ?hr ?_; (case hd => rfl); (case hg => rfl); (case hr => first | (go_simp; done) | (go_simp; rfl)); intro g hg w1 hbox hb; have HB := Aside0.mk hb; have BK4 := Aside0.mk hbox; have HG := Aside0.mk (show w.heap.size ≤ g from by omega); clear hb hbox hg))
      refine (HK.out _).mono ?_
      rintro e w2 ⟨rfl, rfl⟩
      go_wp2_with fail
      refine (HR.out _ HB.out).mono ?_
      rintro e w2 ⟨n, t, rfl, -, hb⟩
      have HB2 := Aside0.mk (below_step HB.out hb)
      have BK42 := Aside0.mk ((hb.block g (by exact blk_lt BK4.out)).trans BK4.out)
      clear hb BK4 HB
      go_wp2_with (first | ((with_reducible refine gate_dst (N := 6) rfl ?_); refine box_event ?hg (N := 6) ?hd (cs := #[.int .u64 0, .string (⟨#[]⟩ : ByteArray)]) (t := 24) ?hr ?_; (case hd => rfl); (case hg => rfl); (case hr => first | (go_simp; done) | (go_simp; rfl)); intro g6 hg w1 hbox hb; have BK6 := Aside0.mk hbox; have BK43 := Aside0.mk ((hb.block g (blk_lt BK42.out)).trans BK42.out); have HG6 := Aside0.mk (show w.heap.size ≤ g6 from by have := HB2.out.size; omega); have HNE := Aside0.mk (show g ≠ g6 from by have := blk_lt BK42.out; omega); have HB3 := Aside0.mk (below_step HB2.out hb); have hc0 := (blk_cell BK6.out 0).trans rfl; have hc1 := (blk_cell BK6.out 1).trans rfl; simp only [List.getElem?_toArray, List.getElem?_cons_zero, List.getElem?_cons_succ] at hc0 hc1; have hf0 := blk_frozen BK6.out 0; have hf1 := blk_frozen BK6.out 1; clear BK42 HB2; clear hb hbox hg) | ((with_reducible refine gate_dst (N := 29) rfl ?_); obtain ⟨W4, hW4⟩ : ∃ W, (w1.setCell ⟨g6, 0, none⟩ (.int .u64 n)).setCell ⟨g6, 1, none⟩ (.string t) = W := ⟨_, rfl⟩; rw [hW4]; have BK64 := Aside0.mk (show W4.heap[g6]? = some (.cells #[.int .u64 n, .string t] 24 (0, 0)) from by rw [← hW4]; exact blk_put (blk_put BK6.out 0 _ rfl) 1 _ rfl); have BK44 := Aside0.mk (show W4.heap[g]? = some (.cells #[.int .u64 0, .string (⟨#[]⟩ : ByteArray)] 24 (0, 0)) from by rw [← hW4]; exact (Below.heap_setCell _ _ _ g HNE.out).trans ((Below.heap_setCell _ _ _ g HNE.out).trans BK43.out)); have HB4 := Aside0.mk (show Below w.heap.size w W4 from by rw [← hW4]; exact below_set (below_set HB3.out HG6.out) HG6.out); clear hc0 hc1 hf0 hf1 hW4 BK6 BK43 HB3; have c0 := (blk_cell BK64.out 0).trans rfl; have c1 := (blk_cell BK64.out 1).trans rfl; have d0 := (blk_cell BK44.out 0).trans rfl; have d1 := (blk_cell BK44.out 1).trans rfl; simp only [List.getElem?_toArray, List.getElem?_cons_zero, List.getElem?_cons_succ] at c0 c1 d0 d1; have z0 := blk_frozen BK64.out 0; have z1 := blk_frozen BK64.out 1; have y0 := blk_frozen BK44.out 0; have y1 := blk_frozen BK44.out 1))
      refine bodyPost_ret (results_ct rfl _ _ g 24 #[.int .u64 0, .string (⟨#[]⟩ : ByteArray)] (0, 0) _ rfl (blk_put (blk_put BK44.out 0 _ rfl) 1 _ rfl) Tryz.underlying24 rfl (by kernel_rfl)) rfl ?_
      exact ⟨_, _, _, HC.out, rfl, below_set (below_set HB4.out HG.out) HG.out⟩
    | some x =>
      obtain ⟨n, t⟩ := x
      rw [hr] at HR
      obtain ⟨hn, ht⟩ := rdv_rng hr
      rw [data_length] at ht
      have HW := Aside0.mk (fun (W : World) (hb : Below w.heap.size w W) => written_calls k n t hk hn (by omega) W (hT.below hb) (hB.below hb))
      have HCK := Aside0.mk (fun (W : World) (hb : Below w.heap.size w W) => check_calls k n t W (by omega) (hU.below hb))
      by_cases hx : ctx k n t = s
      · have hy := crd_yes hk hr (by rw [← hx]; exact (List.toList_toArray ..).symm)
        rw [hx] at HW
        have q1 : (s.toList != s.toList) = false := bne_self_eq_false ..
        by_cases h6 : 256 < t.size
        · rw [if_pos h6] at hy
          have HC := Aside0.mk hy
          have h6' : 256 < (t.size : Int) := by omega
          clear hk hs hT hB hU hE hr hn ht hx hy HCK
          go_enter Tryz.func20, Tryz.ntmps20
          go_wp2_with (((with_reducible refine gate_dst (N := 4) rfl ?_); refine box_event ?hg (N := 4) ?hd (cs := #[.int .u64 0, .string (⟨#[]⟩ : ByteArray)]) (t := 24) ?hr ?_; (case hd => rfl); (case hg => rfl); (case hr => first | (go_simp; done) | (go_simp; rfl)); intro g hg w1 hbox hb; have HB := Aside0.mk hb; have BK4 := Aside0.mk hbox; have HG := Aside0.mk (show w.heap.size ≤ g from by omega); clear hb hbox hg))
          refine (HK.out _).mono ?_
          rintro e w2 ⟨rfl, rfl⟩
          go_wp2_with fail
          refine (HR.out _ HB.out).mono ?_
          rintro e w2 ⟨n', t', rfl, he, hb⟩
          have hE := he _ rfl
          injection hE with e1 e2
          subst e1 e2
          clear he
          have HB2 := Aside0.mk (below_step HB.out hb)
          have BK42 := Aside0.mk ((hb.block g (by exact blk_lt BK4.out)).trans BK4.out)
          clear hb BK4 HB
          go_wp2_with (first | ((with_reducible refine gate_dst (N := 6) rfl ?_); refine box_event ?hg (N := 6) ?hd (cs := #[.int .u64 0, .string (⟨#[]⟩ : ByteArray)]) (t := 24) ?hr ?_; (case hd => rfl); (case hg => rfl); (case hr => first | (go_simp; done) | (go_simp; rfl)); intro g6 hg w1 hbox hb; have BK6 := Aside0.mk hbox; have BK43 := Aside0.mk ((hb.block g (blk_lt BK42.out)).trans BK42.out); have HG6 := Aside0.mk (show w.heap.size ≤ g6 from by have := HB2.out.size; omega); have HNE := Aside0.mk (show g ≠ g6 from by have := blk_lt BK42.out; omega); have HB3 := Aside0.mk (below_step HB2.out hb); have hc0 := (blk_cell BK6.out 0).trans rfl; have hc1 := (blk_cell BK6.out 1).trans rfl; simp only [List.getElem?_toArray, List.getElem?_cons_zero, List.getElem?_cons_succ] at hc0 hc1; have hf0 := blk_frozen BK6.out 0; have hf1 := blk_frozen BK6.out 1; clear BK42 HB2; clear hb hbox hg) | ((with_reducible refine gate_dst (N := 24) rfl ?_); obtain ⟨W4, hW4⟩ : ∃ W, (w1.setCell ⟨g6, 0, none⟩ (.int .u64 n)).setCell ⟨g6, 1, none⟩ (.string t) = W := ⟨_, rfl⟩; rw [hW4]; have BK64 := Aside0.mk (show W4.heap[g6]? = some (.cells #[.int .u64 n, .string t] 24 (0, 0)) from by rw [← hW4]; exact blk_put (blk_put BK6.out 0 _ rfl) 1 _ rfl); have BK44 := Aside0.mk (show W4.heap[g]? = some (.cells #[.int .u64 0, .string (⟨#[]⟩ : ByteArray)] 24 (0, 0)) from by rw [← hW4]; exact (Below.heap_setCell _ _ _ g HNE.out).trans ((Below.heap_setCell _ _ _ g HNE.out).trans BK43.out)); have HB4 := Aside0.mk (show Below w.heap.size w W4 from by rw [← hW4]; exact below_set (below_set HB3.out HG6.out) HG6.out); clear hc0 hc1 hf0 hf1 hW4 BK6 BK43 HB3; have c0 := (blk_cell BK64.out 0).trans rfl; have c1 := (blk_cell BK64.out 1).trans rfl; have d0 := (blk_cell BK44.out 0).trans rfl; have d1 := (blk_cell BK44.out 1).trans rfl; simp only [List.getElem?_toArray, List.getElem?_cons_zero, List.getElem?_cons_succ] at c0 c1 d0 d1; have z0 := blk_frozen BK64.out 0; have z1 := blk_frozen BK64.out 1; have y0 := blk_frozen BK44.out 0; have y1 := blk_frozen BK44.out 1))
          refine (HW.out _ HB4.out).mono ?_
          rintro e w5 ⟨rfl, hb⟩
          have HB5 := Aside0.mk (below_step HB4.out hb); have BK65 := Aside0.mk ((hb.block g6 (blk_lt BK64.out)).trans BK64.out); have BK45 := Aside0.mk ((hb.block g (blk_lt BK44.out)).trans BK44.out); clear hb c0 c1 d0 d1 z0 z1 y0 y1 HB4 BK64 BK44; have c0 := (blk_cell BK65.out 0).trans rfl; have c1 := (blk_cell BK65.out 1).trans rfl; have d0 := (blk_cell BK45.out 0).trans rfl; have d1 := (blk_cell BK45.out 1).trans rfl; simp only [List.getElem?_toArray, List.getElem?_cons_zero, List.getElem?_cons_succ] at c0 c1 d0 d1; have z0 := blk_frozen BK65.out 0; have z1 := blk_frozen BK65.out 1; have y0 := blk_frozen BK45.out 0; have y1 := blk_frozen BK45.out 1
          go_wp2_with fail
          refine bodyPost_ret (results_ct rfl _ _ g 24 #[.int .u64 0, .string (⟨#[]⟩ : ByteArray)] (0, 0) _ rfl (blk_put (blk_put BK45.out 0 _ rfl) 1 _ rfl) Tryz.underlying24 rfl (by kernel_rfl)) rfl ?_
          exact ⟨_, _, _, HC.out, rfl, below_set (below_set HB5.out HG.out) HG.out⟩
        · rw [if_neg h6] at hy
          have h6' : ¬ (256 < (t.size : Int)) := by omega
          by_cases hq : chk k n t = 0
          · rw [if_neg (by rw [hq]; simp)] at hy
            rw [hq] at HCK
            have HC := Aside0.mk hy
            clear hk hs hT hB hU hE hr hn ht hx hy hq
            go_enter Tryz.func20, Tryz.ntmps20
            go_wp2_with (((with_reducible refine gate_dst (N := 4) rfl ?_); refine box_event ?hg (N := 4) ?hd (cs := #[.int .u64 0, .string (⟨#[]⟩ : ByteArray)]) (t := 24) ?hr ?_; (case hd => rfl); (case hg => rfl); (case hr => first | (go_simp; done) | (go_simp; rfl)); intro g hg w1 hbox hb; have HB := Aside0.mk hb; have BK4 := Aside0.mk hbox; have HG := Aside0.mk (show w.heap.size ≤ g from by omega); clear hb hbox hg))
            refine (HK.out _).mono ?_
            rintro e w2 ⟨rfl, rfl⟩
            go_wp2_with fail
            refine (HR.out _ HB.out).mono ?_
            rintro e w2 ⟨n', t', rfl, he, hb⟩
            have hE := he _ rfl
            injection hE with e1 e2
            subst e1 e2
            clear he
            have HB2 := Aside0.mk (below_step HB.out hb)
            have BK42 := Aside0.mk ((hb.block g (by exact blk_lt BK4.out)).trans BK4.out)
            clear hb BK4 HB
            go_wp2_with (first | ((with_reducible refine gate_dst (N := 6) rfl ?_); refine box_event ?hg (N := 6) ?hd (cs := #[.int .u64 0, .string (⟨#[]⟩ : ByteArray)]) (t := 24) ?hr ?_; (case hd => rfl); (case hg => rfl); (case hr => first | (go_simp; done) | (go_simp; rfl)); intro g6 hg w1 hbox hb; have BK6 := Aside0.mk hbox; have BK43 := Aside0.mk ((hb.block g (blk_lt BK42.out)).trans BK42.out); have HG6 := Aside0.mk (show w.heap.size ≤ g6 from by have := HB2.out.size; omega); have HNE := Aside0.mk (show g ≠ g6 from by have := blk_lt BK42.out; omega); have HB3 := Aside0.mk (below_step HB2.out hb); have hc0 := (blk_cell BK6.out 0).trans rfl; have hc1 := (blk_cell BK6.out 1).trans rfl; simp only [List.getElem?_toArray, List.getElem?_cons_zero, List.getElem?_cons_succ] at hc0 hc1; have hf0 := blk_frozen BK6.out 0; have hf1 := blk_frozen BK6.out 1; clear BK42 HB2; clear hb hbox hg) | ((with_reducible refine gate_dst (N := 24) rfl ?_); obtain ⟨W4, hW4⟩ : ∃ W, (w1.setCell ⟨g6, 0, none⟩ (.int .u64 n)).setCell ⟨g6, 1, none⟩ (.string t) = W := ⟨_, rfl⟩; rw [hW4]; have BK64 := Aside0.mk (show W4.heap[g6]? = some (.cells #[.int .u64 n, .string t] 24 (0, 0)) from by rw [← hW4]; exact blk_put (blk_put BK6.out 0 _ rfl) 1 _ rfl); have BK44 := Aside0.mk (show W4.heap[g]? = some (.cells #[.int .u64 0, .string (⟨#[]⟩ : ByteArray)] 24 (0, 0)) from by rw [← hW4]; exact (Below.heap_setCell _ _ _ g HNE.out).trans ((Below.heap_setCell _ _ _ g HNE.out).trans BK43.out)); have HB4 := Aside0.mk (show Below w.heap.size w W4 from by rw [← hW4]; exact below_set (below_set HB3.out HG6.out) HG6.out); clear hc0 hc1 hf0 hf1 hW4 BK6 BK43 HB3; have c0 := (blk_cell BK64.out 0).trans rfl; have c1 := (blk_cell BK64.out 1).trans rfl; have d0 := (blk_cell BK44.out 0).trans rfl; have d1 := (blk_cell BK44.out 1).trans rfl; simp only [List.getElem?_toArray, List.getElem?_cons_zero, List.getElem?_cons_succ] at c0 c1 d0 d1; have z0 := blk_frozen BK64.out 0; have z1 := blk_frozen BK64.out 1; have y0 := blk_frozen BK44.out 0; have y1 := blk_frozen BK44.out 1))
            refine (HW.out _ HB4.out).mono ?_
            rintro e w5 ⟨rfl, hb⟩
            have HB5 := Aside0.mk (below_step HB4.out hb); have BK65 := Aside0.mk ((hb.block g6 (blk_lt BK64.out)).trans BK64.out); have BK45 := Aside0.mk ((hb.block g (blk_lt BK44.out)).trans BK44.out); clear hb c0 c1 d0 d1 z0 z1 y0 y1 HB4 BK64 BK44; have c0 := (blk_cell BK65.out 0).trans rfl; have c1 := (blk_cell BK65.out 1).trans rfl; have d0 := (blk_cell BK45.out 0).trans rfl; have d1 := (blk_cell BK45.out 1).trans rfl; simp only [List.getElem?_toArray, List.getElem?_cons_zero, List.getElem?_cons_succ] at c0 c1 d0 d1; have z0 := blk_frozen BK65.out 0; have z1 := blk_frozen BK65.out 1; have y0 := blk_frozen BK45.out 0; have y1 := blk_frozen BK45.out 1
            go_wp2_with fail
            refine (HCK.out _ HB5.out).mono ?_
            rintro e w6 ⟨rfl, hb⟩
            have HB6 := Aside0.mk (below_step HB5.out hb); have BK66 := Aside0.mk ((hb.block g6 (blk_lt BK65.out)).trans BK65.out); have BK46 := Aside0.mk ((hb.block g (blk_lt BK45.out)).trans BK45.out); clear hb c0 c1 d0 d1 z0 z1 y0 y1 HB5 BK65 BK45; have c0 := (blk_cell BK66.out 0).trans rfl; have c1 := (blk_cell BK66.out 1).trans rfl; have d0 := (blk_cell BK46.out 0).trans rfl; have d1 := (blk_cell BK46.out 1).trans rfl; simp only [List.getElem?_toArray, List.getElem?_cons_zero, List.getElem?_cons_succ] at c0 c1 d0 d1; have z0 := blk_frozen BK66.out 0; have z1 := blk_frozen BK66.out 1; have y0 := blk_frozen BK46.out 0; have y1 := blk_frozen BK46.out 1
            go_wp2_with fail
            refine bodyPost_ret (results_ct rfl _ _ g 24 #[.int .u64 n, .string t] (0, 0) _ rfl (blk_put (blk_put BK46.out 0 _ rfl) 1 _ rfl) Tryz.underlying24 rfl (by kernel_rfl)) rfl ?_
            exact ⟨_, _, _, HC.out, rfl, below_set (below_set HB6.out HG.out) HG.out⟩
          · rw [if_pos hq] at hy
            obtain ⟨q, hq'⟩ : ∃ q, chk k n t = q := ⟨_, rfl⟩
            rw [hq'] at HCK hy hq
            have q2 : (q != 0) = true := bne_iff_ne.mpr hq
            have HC := Aside0.mk hy
            clear hk hs hT hB hU hE hr hn ht hx hy hq hq'
            go_enter Tryz.func20, Tryz.ntmps20
            go_wp2_with (((with_reducible refine gate_dst (N := 4) rfl ?_); refine box_event ?hg (N := 4) ?hd (cs := #[.int .u64 0, .string (⟨#[]⟩ : ByteArray)]) (t := 24) ?hr ?_; (case hd => rfl); (case hg => rfl); (case hr => first | (go_simp; done) | (go_simp; rfl)); intro g hg w1 hbox hb; have HB := Aside0.mk hb; have BK4 := Aside0.mk hbox; have HG := Aside0.mk (show w.heap.size ≤ g from by omega); clear hb hbox hg))
            refine (HK.out _).mono ?_
            rintro e w2 ⟨rfl, rfl⟩
            go_wp2_with fail
            refine (HR.out _ HB.out).mono ?_
            rintro e w2 ⟨n', t', rfl, he, hb⟩
            have hE := he _ rfl
            injection hE with e1 e2
            subst e1 e2
            clear he
            have HB2 := Aside0.mk (below_step HB.out hb)
            have BK42 := Aside0.mk ((hb.block g (by exact blk_lt BK4.out)).trans BK4.out)
            clear hb BK4 HB
            go_wp2_with (first | ((with_reducible refine gate_dst (N := 6) rfl ?_); refine box_event ?hg (N := 6) ?hd (cs := #[.int .u64 0, .string (⟨#[]⟩ : ByteArray)]) (t := 24) ?hr ?_; (case hd => rfl); (case hg => rfl); (case hr => first | (go_simp; done) | (go_simp; rfl)); intro g6 hg w1 hbox hb; have BK6 := Aside0.mk hbox; have BK43 := Aside0.mk ((hb.block g (blk_lt BK42.out)).trans BK42.out); have HG6 := Aside0.mk (show w.heap.size ≤ g6 from by have := HB2.out.size; omega); have HNE := Aside0.mk (show g ≠ g6 from by have := blk_lt BK42.out; omega); have HB3 := Aside0.mk (below_step HB2.out hb); have hc0 := (blk_cell BK6.out 0).trans rfl; have hc1 := (blk_cell BK6.out 1).trans rfl; simp only [List.getElem?_toArray, List.getElem?_cons_zero, List.getElem?_cons_succ] at hc0 hc1; have hf0 := blk_frozen BK6.out 0; have hf1 := blk_frozen BK6.out 1; clear BK42 HB2; clear hb hbox hg) | ((with_reducible refine gate_dst (N := 24) rfl ?_); obtain ⟨W4, hW4⟩ : ∃ W, (w1.setCell ⟨g6, 0, none⟩ (.int .u64 n)).setCell ⟨g6, 1, none⟩ (.string t) = W := ⟨_, rfl⟩; rw [hW4]; have BK64 := Aside0.mk (show W4.heap[g6]? = some (.cells #[.int .u64 n, .string t] 24 (0, 0)) from by rw [← hW4]; exact blk_put (blk_put BK6.out 0 _ rfl) 1 _ rfl); have BK44 := Aside0.mk (show W4.heap[g]? = some (.cells #[.int .u64 0, .string (⟨#[]⟩ : ByteArray)] 24 (0, 0)) from by rw [← hW4]; exact (Below.heap_setCell _ _ _ g HNE.out).trans ((Below.heap_setCell _ _ _ g HNE.out).trans BK43.out)); have HB4 := Aside0.mk (show Below w.heap.size w W4 from by rw [← hW4]; exact below_set (below_set HB3.out HG6.out) HG6.out); clear hc0 hc1 hf0 hf1 hW4 BK6 BK43 HB3; have c0 := (blk_cell BK64.out 0).trans rfl; have c1 := (blk_cell BK64.out 1).trans rfl; have d0 := (blk_cell BK44.out 0).trans rfl; have d1 := (blk_cell BK44.out 1).trans rfl; simp only [List.getElem?_toArray, List.getElem?_cons_zero, List.getElem?_cons_succ] at c0 c1 d0 d1; have z0 := blk_frozen BK64.out 0; have z1 := blk_frozen BK64.out 1; have y0 := blk_frozen BK44.out 0; have y1 := blk_frozen BK44.out 1))
            refine (HW.out _ HB4.out).mono ?_
            rintro e w5 ⟨rfl, hb⟩
            have HB5 := Aside0.mk (below_step HB4.out hb); have BK65 := Aside0.mk ((hb.block g6 (blk_lt BK64.out)).trans BK64.out); have BK45 := Aside0.mk ((hb.block g (blk_lt BK44.out)).trans BK44.out); clear hb c0 c1 d0 d1 z0 z1 y0 y1 HB4 BK64 BK44; have c0 := (blk_cell BK65.out 0).trans rfl; have c1 := (blk_cell BK65.out 1).trans rfl; have d0 := (blk_cell BK45.out 0).trans rfl; have d1 := (blk_cell BK45.out 1).trans rfl; simp only [List.getElem?_toArray, List.getElem?_cons_zero, List.getElem?_cons_succ] at c0 c1 d0 d1; have z0 := blk_frozen BK65.out 0; have z1 := blk_frozen BK65.out 1; have y0 := blk_frozen BK45.out 0; have y1 := blk_frozen BK45.out 1
            go_wp2_with fail
            refine (HCK.out _ HB5.out).mono ?_
            rintro e w6 ⟨rfl, hb⟩
            have HB6 := Aside0.mk (below_step HB5.out hb); have BK66 := Aside0.mk ((hb.block g6 (blk_lt BK65.out)).trans BK65.out); have BK46 := Aside0.mk ((hb.block g (blk_lt BK45.out)).trans BK45.out); clear hb c0 c1 d0 d1 z0 z1 y0 y1 HB5 BK65 BK45; have c0 := (blk_cell BK66.out 0).trans rfl; have c1 := (blk_cell BK66.out 1).trans rfl; have d0 := (blk_cell BK46.out 0).trans rfl; have d1 := (blk_cell BK46.out 1).trans rfl; simp only [List.getElem?_toArray, List.getElem?_cons_zero, List.getElem?_cons_succ] at c0 c1 d0 d1; have z0 := blk_frozen BK66.out 0; have z1 := blk_frozen BK66.out 1; have y0 := blk_frozen BK46.out 0; have y1 := blk_frozen BK46.out 1
            go_wp2_with fail
            refine bodyPost_ret (results_ct rfl _ _ g 24 #[.int .u64 0, .string (⟨#[]⟩ : ByteArray)] (0, 0) _ rfl (blk_put (blk_put BK46.out 0 _ rfl) 1 _ rfl) Tryz.underlying24 rfl (by kernel_rfl)) rfl ?_
            exact ⟨_, _, _, HC.out, rfl, below_set (below_set HB6.out HG.out) HG.out⟩
      · have HC := Aside0.mk (crd_no_ (l := s.data.toList) hk (by
          intro n' t' hr' e
          rw [hr] at hr'
          injection hr' with hr'; injection hr' with h1 h2
          rw [← h1, ← h2] at e
          refine hx ?_
          unfold ctx
          rw [e]))
        obtain ⟨u, hu⟩ : ∃ u, ctx k n t = u := ⟨_, rfl⟩
        rw [hu] at HW hx
        have hxl : u.toList ≠ s.toList := fun e => hx (by rw [str_toList, str_toList] at e; exact data_inj e)
        have q1 : (u.toList == s.toList) = false := beq_eq_false_iff_ne.mpr hxl
        clear hk hs hT hB hU hE hr hn ht hx hu hxl HCK
        go_enter Tryz.func20, Tryz.ntmps20
        go_wp2_with (((with_reducible refine gate_dst (N := 4) rfl ?_); refine box_event ?hg (N := 4) ?hd (cs := #[.int .u64 0, .string (⟨#[]⟩ : ByteArray)]) (t := 24) ?hr ?_; (case hd => rfl); (case hg => rfl); (case hr => first | (go_simp; done) | (go_simp; rfl)); intro g hg w1 hbox hb; have HB := Aside0.mk hb; have BK4 := Aside0.mk hbox; have HG := Aside0.mk (show w.heap.size ≤ g from by omega); clear hb hbox hg))
        refine (HK.out _).mono ?_
        rintro e w2 ⟨rfl, rfl⟩
        go_wp2_with fail
        refine (HR.out _ HB.out).mono ?_
        rintro e w2 ⟨n', t', rfl, he, hb⟩
        have hE := he _ rfl
        injection hE with e1 e2
        subst e1 e2
        clear he
        have HB2 := Aside0.mk (below_step HB.out hb)
        have BK42 := Aside0.mk ((hb.block g (by exact blk_lt BK4.out)).trans BK4.out)
        clear hb BK4 HB
        go_wp2_with (first | ((with_reducible refine gate_dst (N := 6) rfl ?_); refine box_event ?hg (N := 6) ?hd (cs := #[.int .u64 0, .string (⟨#[]⟩ : ByteArray)]) (t := 24) ?hr ?_; (case hd => rfl); (case hg => rfl); (case hr => first | (go_simp; done) | (go_simp; rfl)); intro g6 hg w1 hbox hb; have BK6 := Aside0.mk hbox; have BK43 := Aside0.mk ((hb.block g (blk_lt BK42.out)).trans BK42.out); have HG6 := Aside0.mk (show w.heap.size ≤ g6 from by have := HB2.out.size; omega); have HNE := Aside0.mk (show g ≠ g6 from by have := blk_lt BK42.out; omega); have HB3 := Aside0.mk (below_step HB2.out hb); have hc0 := (blk_cell BK6.out 0).trans rfl; have hc1 := (blk_cell BK6.out 1).trans rfl; simp only [List.getElem?_toArray, List.getElem?_cons_zero, List.getElem?_cons_succ] at hc0 hc1; have hf0 := blk_frozen BK6.out 0; have hf1 := blk_frozen BK6.out 1; clear BK42 HB2; clear hb hbox hg) | ((with_reducible refine gate_dst (N := 24) rfl ?_); obtain ⟨W4, hW4⟩ : ∃ W, (w1.setCell ⟨g6, 0, none⟩ (.int .u64 n)).setCell ⟨g6, 1, none⟩ (.string t) = W := ⟨_, rfl⟩; rw [hW4]; have BK64 := Aside0.mk (show W4.heap[g6]? = some (.cells #[.int .u64 n, .string t] 24 (0, 0)) from by rw [← hW4]; exact blk_put (blk_put BK6.out 0 _ rfl) 1 _ rfl); have BK44 := Aside0.mk (show W4.heap[g]? = some (.cells #[.int .u64 0, .string (⟨#[]⟩ : ByteArray)] 24 (0, 0)) from by rw [← hW4]; exact (Below.heap_setCell _ _ _ g HNE.out).trans ((Below.heap_setCell _ _ _ g HNE.out).trans BK43.out)); have HB4 := Aside0.mk (show Below w.heap.size w W4 from by rw [← hW4]; exact below_set (below_set HB3.out HG6.out) HG6.out); clear hc0 hc1 hf0 hf1 hW4 BK6 BK43 HB3; have c0 := (blk_cell BK64.out 0).trans rfl; have c1 := (blk_cell BK64.out 1).trans rfl; have d0 := (blk_cell BK44.out 0).trans rfl; have d1 := (blk_cell BK44.out 1).trans rfl; simp only [List.getElem?_toArray, List.getElem?_cons_zero, List.getElem?_cons_succ] at c0 c1 d0 d1; have z0 := blk_frozen BK64.out 0; have z1 := blk_frozen BK64.out 1; have y0 := blk_frozen BK44.out 0; have y1 := blk_frozen BK44.out 1))
        refine (HW.out _ HB4.out).mono ?_
        rintro e w5 ⟨rfl, hb⟩
        have HB5 := Aside0.mk (below_step HB4.out hb); have BK65 := Aside0.mk ((hb.block g6 (blk_lt BK64.out)).trans BK64.out); have BK45 := Aside0.mk ((hb.block g (blk_lt BK44.out)).trans BK44.out); clear hb c0 c1 d0 d1 z0 z1 y0 y1 HB4 BK64 BK44; have c0 := (blk_cell BK65.out 0).trans rfl; have c1 := (blk_cell BK65.out 1).trans rfl; have d0 := (blk_cell BK45.out 0).trans rfl; have d1 := (blk_cell BK45.out 1).trans rfl; simp only [List.getElem?_toArray, List.getElem?_cons_zero, List.getElem?_cons_succ] at c0 c1 d0 d1; have z0 := blk_frozen BK65.out 0; have z1 := blk_frozen BK65.out 1; have y0 := blk_frozen BK45.out 0; have y1 := blk_frozen BK45.out 1
        go_wp2_with fail
        refine bodyPost_ret (results_ct rfl _ _ g 24 #[.int .u64 0, .string (⟨#[]⟩ : ByteArray)] (0, 0) _ rfl (blk_put (blk_put BK45.out 0 _ rfl) 1 _ rfl) Tryz.underlying24 rfl (by kernel_rfl)) rfl ?_
        exact ⟨_, _, _, HC.out, rfl, below_set (below_set HB5.out HG.out) HG.out⟩
  · rw [decide_eq_false hk] at HK
    have HC := Aside0.mk (show crd k s.data.toList = (0, E0, 10) from if_pos hk)
    clear hk hs hT hB hU hE
    go_enter Tryz.func20, Tryz.ntmps20
    go_wp2_with (((with_reducible refine gate_dst (N := 4) rfl ?_); refine box_event ?hg (N := 4) ?hd (cs := #[.int .u64 0, .string (⟨#[]⟩ : ByteArray)]) (t := 24) ?hr ?_; (case hd => rfl); (case hg => rfl); (case hr => first | (go_simp; done) | (go_simp; rfl)); intro g hg w1 hbox hb; have HB := Aside0.mk hb; have BK4 := Aside0.mk hbox; have HG := Aside0.mk (show w.heap.size ≤ g from by omega); clear hb hbox hg))
    refine (HK.out _).mono ?_
    rintro e w2 ⟨rfl, rfl⟩
    have hc0 := (blk_cell BK4.out 0).trans rfl
    have hc1 := (blk_cell BK4.out 1).trans rfl
    simp only [List.getElem?_toArray, List.getElem?_cons_zero, List.getElem?_cons_succ] at hc0 hc1
    have hf0 := blk_frozen BK4.out 0
    have hf1 := blk_frozen BK4.out 1
    go_wp2_with fail
    refine bodyPost_ret (results_ct rfl _ _ g 24 #[.int .u64 0, .string (⟨#[]⟩ : ByteArray)] (0, 0) _ rfl (blk_put (blk_put BK4.out 0 _ rfl) 1 _ rfl) Tryz.underlying24 rfl (by kernel_rfl)) rfl ?_
    exact ⟨_, _, _, HC.out, rfl, below_set (below_set HB.out HG.out) HG.out⟩
end Go.Proofs.YtciolchdihlgfaaGreatDoor.Tx
