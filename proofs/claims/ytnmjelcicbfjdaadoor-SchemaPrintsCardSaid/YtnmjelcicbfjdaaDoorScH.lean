import Derived.Test.YtnmjelcicbfjdaaDoorScG
/-! SchemaPrints: the call. -/
namespace Go.Proofs.YtnmjelcicbfjdaaDoor.Sc
open Go.RowKit Go.Proofs.YtnmjelcicbfjdaaDoorW.PrintWords Go.Proofs.YtnmjelcicbfjdaaDoorW.PrintLast Go.Proofs.YtnmjelcicbfjdaaDoorW.PrintMore Go.Proofs.YtnmjelcicbfjdaaDoor.Wire Go.Proofs.YtnmjelcicbfjdaaDoor.PSc Go.Proofs.YtnmjelcicbfjdaaDoor.Co Go.Proofs.YtnmjelcicbfjdaaDoor.Ce
set_option linter.unusedVariables false
set_option linter.unusedSimpArgs false
set_option maxRecDepth 100000
/-- A column is stored into a row. -/
theorem col_put {W : World} {base g n cap : Nat} {ok : Nat → Prop} {xs : List Col} (h : Kd.R k54 54 W base ok (.slice (some ⟨g, 0, none⟩) n cap) xs) {i : Nat} (hi : i < n) (x : Col) :
    Kd.R k54 54 ((W.setCell ⟨g, i * 2, none⟩ (.string x.f0)).setCell ⟨g, i * 2 + 1, none⟩ (.int .i64 x.f1)) base ok (.slice (some ⟨g, 0, none⟩) n cap) (xs.set i x) ∧ W.grownBy ((W.setCell ⟨g, i * 2, none⟩ (.string x.f0)).setCell ⟨g, i * 2 + 1, none⟩ (.int .i64 x.f1)) (some g) := by
  obtain ⟨hn, -, hC⟩ := Kd.R_reads' h
  obtain ⟨ad, e, h0, h1⟩ := at_T54 hC (i : Int) (by omega) (by omega)
  obtain rfl : (⟨g, 0, none⟩ : Addr) = ad := Option.some.inj e
  rw [Int.toNat_natCast, add_plain] at h0 h1
  have := Kd.R_seg h (i : Int) (by omega) (by omega) (c := [.string (rd_T54 xs (i : Int)).f0, .int .i64 (rd_T54 xs (i : Int)).f1]) (seg := [.string x.f0, .int .i64 x.f1]) (j := 0) (okp := fun _ => False) rfl (by
    intro j u hu
    rw [Int.toNat_natCast]
    match j, hu with
    | 0, hu => injection hu with hu; rw [← hu]; exact h0
    | 1, hu => injection hu with hu; rw [← hu]; exact h1) (by show 0 + 2 ≤ 2; omega) (x' := x) (k54_mkM _ _ _ _) (fun _ h => h.elim)
  rw [Int.toNat_natCast] at this
  exact this
theorem two_facts {U : World} {g o : Nat} {t : TypeId} {cells : Array Value} (h : U.heap[g]? = some (.cells cells t (0, 0))) {a b : Value} (ha : U.cell? ⟨g, o, none⟩ = some a) (hb : U.cell? ⟨g, o + 1, none⟩ = some b) (v0 : Value) :
    U.frozen? ⟨g, o, none⟩ = false ∧ U.frozen? ⟨g, o + 1, none⟩ = false ∧ (U.setCell ⟨g, o, none⟩ v0).cell? ⟨g, o + 1, none⟩ = some b ∧ (U.setCell ⟨g, o, none⟩ v0).frozen? ⟨g, o + 1, none⟩ = false := by
  have h2 : (U.setCell ⟨g, o, none⟩ v0).heap[g]? = some (.cells (cells.setIfInBounds o v0) t (0, 0)) := blk_put h o v0 rfl
  refine ⟨blk_frozen h o, blk_frozen h (o + 1), ?_, blk_frozen h2 (o + 1)⟩
  rw [blk_cell h2, Array.getElem?_setIfInBounds_ne (by omega), ← blk_cell h]
  exact hb
theorem rows_M {W W' : World} {base : Nat} {ok : Nat → Prop} {x : Col} {cs : List Value} (h : (k54).K W x cs) : (k54).M W' base ok x cs := by
  obtain rfl := k54_open h
  exact k54_mkM _ _ _ _
theorem ok_size {m : List Col} (h : sck m = 0) (i : Int) : (rd_T54 m i).f0.size ≤ 9223372036854775807 :=
  Nat.le_trans (rd_size (B := 32) (fun c hc => ((sck_small h).2 c hc).1) i) (by decide)
set_option maxHeartbeats 32000000 in
theorem prints_calls {A : Option Addr} {c : Nat} {l : List Col} (a : Int) (w : World) (hN : NamesW w) (hM : MaxW w) (hr : Kd.C k54 w A l.length l) (hc : l.length ≤ c) (hs : ∀ i, (rd_T54 l i).f0.size ≤ 9223372036854775807) (ha : 0 ≤ a ∧ a < 256) :
    Calls Tryd.prog 7 #[.slice A l.length c, .int .u8 a] w fun e w' => e = .returned (.bool true) ∧ Below w.heap.size w w' := by
  have HAL := Aside0.mk (fun (W : World) (hb : Below w.heap.size w W) => alive_calls W (hN.below hb) (hM.below hb))
  obtain ⟨g, hg⟩ := great_calls (c := c) w hr hc
  have HGR := Aside0.mk hg
  have HCK := Aside0.mk (fun (W : World) (hb : Below w.heap.size w W) => scheck_calls (c := c) W (hN.below hb) (Kd.C_below hr hb) hc hs)
  have HPR := Aside0.mk (fun (W : World) (hb : Below w.heap.size w W) => sprint_calls (c := c) W (hN.below hb) (Kd.C_below hr hb) hc hs)
  have HWR := Aside0.mk (fun (W : World) (hb : Below w.heap.size w W) => swrite_calls (c := c) W (hN.below hb) (Kd.C_below hr hb) hc hs)
  have HP2 := Aside0.mk (fun (m : List Col) (hm : sck m = 0) (A' : Option Addr) (c' : Nat) (W : World) (hb : Below w.heap.size w W) (hC : Kd.C k54 W A' m.length m) (hc' : m.length ≤ c') => sprint_calls (c := c') W (hN.below hb) hC hc' (ok_size hm))
  have HW2 := Aside0.mk (fun (m : List Col) (hm : sck m = 0) (A' : Option Addr) (c' : Nat) (W : World) (hb : Below w.heap.size w W) (hC : Kd.C k54 W A' m.length m) (hc' : m.length ≤ c') => swrite_calls (c := c') W (hN.below hb) hC hc' (ok_size hm))
  have HRR := Aside0.mk hr
  obtain ⟨n, hn⟩ : ∃ n, l.length = n := ⟨_, rfl⟩
  have HNN := Aside0.mk hn
  rw [hn] at HGR HCK HPR HWR ⊢
  obtain ⟨k, hk⟩ : ∃ k, sck l = k := ⟨_, rfl⟩
  have HK := Aside0.mk hk
  rw [hk] at HCK HPR HWR
  have HA := Aside0.mk ha
  clear hN hM hr hc hs hg hn hk ha
  go_enter Tryd.func7, Tryd.ntmps7
  go_wp2_with fail
  refine (HAL.out _ (Below.refl _ _)).mono ?_
  rintro e u1 ⟨rfl, hb⟩
  have HB := Aside0.mk hb
  clear hb
  go_wp2_with fail
  refine (HGR.out _ HB.out).mono ?_
  rintro e u2 ⟨rfl, hb⟩
  replace HB := Aside0.mk (below_step HB.out hb)
  clear hb
  cases g
  case true =>
    go_wp2_with fail
    refine (HAL.out _ HB.out).mono ?_
    rintro e wq ⟨rfl, hq⟩
    have hfin := below_step HB.out hq
    go_wp2_with fail
    go_ret
    exact ⟨rfl, hfin⟩
  go_wp2_with fail
  refine (HCK.out _ HB.out).mono ?_
  rintro e u3 ⟨rfl, hb⟩
  replace HB := Aside0.mk (below_step HB.out hb)
  clear hb
  by_cases hk0 : k ≠ 0
  · have t1 : (k != 0) = true := bne_iff_ne.mpr hk0
    clear hk0
    go_wp2_with fail
    refine (HAL.out _ HB.out).mono ?_
    rintro e wq ⟨rfl, hq⟩
    have hfin := below_step HB.out hq
    go_wp2_with fail
    go_ret
    exact ⟨rfl, hfin⟩
  obtain rfl : k = 0 := Decidable.not_not.1 hk0
  clear hk0
  have hsz := ((sck_iff l).1 HK.out).1
  rw [HNN.out] at hsz
  have HSZ := Aside0.mk hsz
  have t0 : ((n : Int) == 0) = false := beq_eq_false_iff_ne.2 (by omega)
  clear hsz
  dsimp only
  iterate 27 (first | go_step | skip)
  refine Kd.R_lit k54 54 ?hg (N := 35) ?hd (w0 := w) (base := w.heap.size) (xs := ([] : List Col)) (inner := []) (ok := fun _ => True) (okp := fun _ => False) ?hr ?hp (fun _ h => h.elim) trivial HB.out HB.out.size (by simp) ?_
  case hd => rfl
  case hg => rfl
  case hr => first | (go_simp; done) | (go_simp; rfl)
  case hp => exact Reps.none _ _
  intro v35 u4 ho hb hg hnew
  have HO0 := Aside0.mk ho
  have HCA := Aside0.mk (Kd.C_below HRR.out hb)
  replace HB := Aside0.mk hb
  clear ho hb hg hnew
  iterate 3 (first | go_step | skip)
  refine Kd.R_append_rows k54 (w0 := w) w.heap.size rfl (.tmp 35) (.tmp 36) 47 54 (.agg #[.string ⟨#[]⟩, .int .i64 0]) 24 rfl Tryd.underlying47 infoC rfl (by decide) (by decide) _ ([] : List Col) l A n c (fun _ => True) (fun _ => False) rfl rfl HO0.out (by have h := HCA.out; rw [HNN.out] at h; exact h) (fun _ _ h => rows_M h) (fun _ h => h.elim) (fun _ _ => trivial) HB.out HB.out.size (by have := HSZ.out; simp only [List.length_nil]; omega) ?_
  intro v37 u5 ho hb hg hat
  rw [List.nil_append] at ho
  obtain ⟨gt, ct, rfl, hgt, -, -⟩ := Kd.R_form ho (by rw [HNN.out]; have := HSZ.out; omega)
  rw [HNN.out] at ho ⊢
  have HT := Aside0.mk ho
  replace HB := Aside0.mk hb
  have HGgt := Aside0.mk hgt
  clear ho hb hg hat hgt HO0 HCA
  go_wp2_with fail
  refine (HPR.out _ HB.out).mono ?_
  rintro e u6 ⟨rfl, hb⟩
  replace HT := Aside0.mk (Kd.R_below HT.out hb)
  replace HB := Aside0.mk (below_step HB.out hb)
  clear hb
  go_wp2_with fail
  have hp2 := HP2.out l HK.out (some ⟨gt, 0, none⟩) ct _ HB.out (Kd.R_reads' HT.out).2.2 (by have := (Kd.R_reads' HT.out).1; have := (Kd.R_reads' HT.out).2.1; omega)
  rw [HNN.out, HK.out] at hp2
  refine (hp2).mono ?_
  rintro e u7 ⟨rfl, hb⟩
  replace HT := Aside0.mk (Kd.R_below HT.out hb)
  replace HB := Aside0.mk (below_step HB.out hb)
  clear hb
  clear hp2 HPR HP2
  obtain ⟨i, hi⟩ : ∃ i : Nat, a.tmod (n : Int) = (i : Int) := ⟨(a.tmod (n : Int)).toNat, by have := HA.out; rw [Int.toNat_of_nonneg (Int.tmod_nonneg _ this.1)]⟩
  have hin : i < n := by have h1 := Int.tmod_lt_of_pos a (show (0 : Int) < (n : Int) by have := HSZ.out; omega); omega
  have HI := Aside0.mk hin
  have hw := HA.out
  have wa : wrap64 a = a := ScG.w64 (by omega) (by omega)
  have wi : wrap64 (i : Int) = (i : Int) := ScG.w64 (by have := HSZ.out; omega) (by have := HSZ.out; omega)
  have z1 : ((n : Int) = 0) = False := eq_false (by have := HSZ.out; omega)
  have z2 : (n = 0) = False := eq_false (by have := HSZ.out; omega)
  clear hin hw
  go_wp2_with fail
  clear wi wa z1 z2
  obtain ⟨ad, e, h0, h1⟩ := at_T54 (Kd.R_reads' HT.out).2.2 (i : Int) (by omega) (by have := HSZ.out; have := HI.out; have := HNN.out; omega)
  obtain rfl : (⟨gt, 0, none⟩ : Addr) = ad := Option.some.inj e
  clear e
  rw [Int.toNat_natCast, add_plain] at h0 h1
  have hok := (((sck_iff l).1 HK.out).2.1 _ (rd_mem (l := l) (j := i) (by have := HNN.out; have := HI.out; omega))).2.2.2
  have HTN := Aside0.mk (show l.set i ⟨(rd_T54 l (i : Int)).f0, ((rd_T54 l (i : Int)).f1 + 1) % 6⟩ = turn l i from rfl)
  obtain ⟨nm, hnm⟩ : ∃ z, (rd_T54 l (i : Int)).f0 = z := ⟨_, rfl⟩
  obtain ⟨kd, hkd⟩ : ∃ z, (rd_T54 l (i : Int)).f1 = z := ⟨_, rfl⟩
  rw [hnm] at h0 HTN
  rw [hkd] at h1 HTN hok
  have HQ := Aside0.mk (show (wrap64 (kd + 1)).tmod 6 = (kd + 1) % 6 from by rw [ScG.w64 (n := kd + 1) (by omega) (by omega), Int.tmod_eq_emod_of_nonneg (by omega)])
  have q0 : (0 ≤ (i : Int)) = True := eq_true (by omega)
  have q1 : ((i : Int) < (n : Int)) = True := eq_true (by have := HI.out; omega)
  obtain ⟨g9, c9, e9, -, -, cells, hblk⟩ := Kd.R_form HT.out (by rw [HNN.out]; have := HSZ.out; omega)
  obtain rfl : gt = g9 := by injection e9 with e9; injection e9 with e9; injection e9
  clear hnm hkd hok e9
  refine start_ (n := 17) (S := fun w' => w'.cell? ⟨gt, i * 2, none⟩ = some (.string nm) ∧ w'.cell? ⟨gt, i * 2 + 1, none⟩ = some (.int .i64 kd)) (ds := [16]) #[false, false, false, false, false, false, false, false, false, false, false, false, false, false, false, false, false] (by kernel_rfl) rfl rfl ⟨h0, h1⟩ (fun hHeld => ?_)
  replace HB := Aside0.mk (below_drew1 HB.out)
  replace HT := Aside0.mk (Kd.R_drew HT.out)
  have hblk' : u7.drew.heap[gt]? = _ := hblk
  have h0' : u7.drew.cell? ⟨gt, i * 2, none⟩ = some (.string nm) := h0
  have h1' : u7.drew.cell? ⟨gt, i * 2 + 1, none⟩ = some (.int .i64 kd) := h1
  clear h0 h1 hblk
  generalize u7.drew = W at *
  clear u7
  refine pure_ (i := 0) (N := some 53) (v := ?_) (a' := ?_) #[true, false, false, false, false, false, false, false, false, false, false, false, false, false, false, false, false] rfl rfl (any_of rfl (by kernel_rfl)) (fun _ _ _ h => h) (Or.inl ⟨by rfl, ?_⟩) ?_ ?_
  rotate_left
  · intro w'
    go_simp
    with_reducible rfl
  rotate_left
  · simp only [Act.put, List.setIfInBounds_toArray, List.set_cons_zero, List.set_cons_succ, i64_w, i32_w]
    rfl
  refine pure_ (i := 1) (N := some 54) (v := ?_) (a' := ?_) #[true, true, false, false, false, false, false, false, false, false, false, false, false, false, false, false, false] rfl rfl (any_of rfl (by kernel_rfl)) (fun _ _ _ h => h) (Or.inl ⟨by rfl, ?_⟩) ?_ ?_
  rotate_left
  · intro w'
    go_simp
    with_reducible rfl
  rotate_left
  · simp only [Act.put, List.setIfInBounds_toArray, List.set_cons_zero, List.set_cons_succ, i64_w, i32_w]
    rfl
  refine pure_ (i := 2) (N := some 55) (v := ?_) (a' := ?_) #[true, true, true, false, false, false, false, false, false, false, false, false, false, false, false, false, false] rfl rfl (any_of rfl (by kernel_rfl)) (fun _ _ _ h => h) (Or.inl ⟨by rfl, ?_⟩) ?_ ?_
  rotate_left
  · intro w'
    go_simp
    with_reducible rfl
  rotate_left
  · simp only [Act.put, List.setIfInBounds_toArray, List.set_cons_zero, List.set_cons_succ, i64_w, i32_w]
    rfl
  refine pure_ (i := 3) (N := some 56) (v := ?_) (a' := ?_) #[true, true, true, true, false, false, false, false, false, false, false, false, false, false, false, false, false] rfl rfl (any_of rfl (by kernel_rfl)) (fun _ _ _ h => h) (Or.inl ⟨by rfl, ?_⟩) ?_ ?_
  rotate_left
  · intro w'
    go_simp
    with_reducible rfl
  rotate_left
  · simp only [Act.put, List.setIfInBounds_toArray, List.set_cons_zero, List.set_cons_succ, i64_w, i32_w]
    rfl
  refine pure_ (i := 7) (N := some 60) (v := ?_) (a' := ?_) #[true, true, true, true, false, false, false, true, false, false, false, false, false, false, false, false, false] rfl rfl (any_of rfl (by kernel_rfl)) (fun _ _ _ h => h) (Or.inl ⟨by rfl, ?_⟩) ?_ ?_
  rotate_left
  · intro w'
    go_simp
    with_reducible rfl
  rotate_left
  · simp only [Act.put, List.setIfInBounds_toArray, List.set_cons_zero, List.set_cons_succ, i64_w, i32_w]
    rfl
  refine pure_ (i := 8) (N := some 61) (v := ?_) (a' := ?_) #[true, true, true, true, false, false, false, true, true, false, false, false, false, false, false, false, false] rfl rfl (any_of rfl (by kernel_rfl)) (fun _ _ _ h => h) (Or.inl ⟨by rfl, ?_⟩) ?_ ?_
  rotate_left
  · intro w'
    go_simp
    with_reducible rfl
  rotate_left
  · simp only [Act.put, List.setIfInBounds_toArray, List.set_cons_zero, List.set_cons_succ, i64_w, i32_w]
    rfl
  refine pure_ (i := 4) (N := some 57) (v := ?_) (a' := ?_) #[true, true, true, true, true, false, false, true, true, false, false, false, false, false, false, false, false] rfl rfl (any_of rfl (by kernel_rfl)) (fun _ _ _ h => h) (Or.inl ⟨by rfl, ?_⟩) ?_ ?_
  rotate_left
  · intro w'
    go_simp
    with_reducible rfl
  rotate_left
  · simp only [Act.put, List.setIfInBounds_toArray, List.set_cons_zero, List.set_cons_succ, i64_w, i32_w]
    rfl
  refine pure_ (i := 9) (N := some 62) (v := ?_) (a' := ?_) #[true, true, true, true, true, false, false, true, true, true, false, false, false, false, false, false, false] rfl rfl (any_of rfl (by kernel_rfl)) (fun _ _ _ h => h) (Or.inl ⟨by rfl, ?_⟩) ?_ ?_
  rotate_left
  · intro w'
    go_simp
    with_reducible rfl
  rotate_left
  · simp only [Act.put, List.setIfInBounds_toArray, List.set_cons_zero, List.set_cons_succ, i64_w, i32_w]
    rfl
  refine pure_ (i := 5) (N := some 58) (v := ?_) (a' := ?_) #[true, true, true, true, true, true, false, true, true, true, false, false, false, false, false, false, false] rfl rfl (any_of rfl (by kernel_rfl)) (fun _ _ _ h => h) (Or.inl ⟨by rfl, ?_⟩) ?_ ?_
  rotate_left
  · intro w'
    go_simp
    with_reducible rfl
  rotate_left
  · simp only [Act.put, List.setIfInBounds_toArray, List.set_cons_zero, List.set_cons_succ, i64_w, i32_w]
    rfl
  refine pure_ (i := 10) (N := some 63) (v := ?_) (a' := ?_) #[true, true, true, true, true, true, false, true, true, true, true, false, false, false, false, false, false] rfl rfl (any_of rfl (by kernel_rfl)) (fun _ _ _ h => h) (Or.inl ⟨by rfl, ?_⟩) ?_ ?_
  rotate_left
  · intro w'
    go_simp
    with_reducible rfl
  rotate_left
  · simp only [Act.put, List.setIfInBounds_toArray, List.set_cons_zero, List.set_cons_succ, i64_w, i32_w]
    rfl
  refine take_ (i := 6) (N := some 59) (v := ?_) (a' := ?_) #[true, true, true, true, true, true, true, true, true, true, true, false, false, false, false, false, false] rfl rfl (take_of rfl (by kernel_rfl)) (fun _ _ _ h => h) (Or.inl ⟨by rfl, ?_⟩) hHeld ?_ ?_
  rotate_left
  · rintro w' ⟨s0, s1⟩
    go_simp
    with_reducible rfl
  rotate_left
  · simp only [Act.put, List.setIfInBounds_toArray, List.set_cons_zero, List.set_cons_succ, i64_w, i32_w]
    rfl
  refine take_ (i := 11) (N := some 64) (v := ?_) (a' := ?_) #[true, true, true, true, true, true, true, true, true, true, true, true, false, false, false, false, false] rfl rfl (take_of rfl (by kernel_rfl)) (fun _ _ _ h => h) (Or.inl ⟨by rfl, ?_⟩) hHeld ?_ ?_
  rotate_left
  · rintro w' ⟨s0, s1⟩
    go_simp
    with_reducible rfl
  rotate_left
  · simp only [Act.put, List.setIfInBounds_toArray, List.set_cons_zero, List.set_cons_succ, i64_w, i32_w]
    rfl
  refine pure_ (i := 12) (N := some 65) (v := ?_) (a' := ?_) #[true, true, true, true, true, true, true, true, true, true, true, true, true, false, false, false, false] rfl rfl (any_of rfl (by kernel_rfl)) (fun _ _ _ h => h) (Or.inl ⟨by rfl, ?_⟩) ?_ ?_
  rotate_left
  · intro w'
    go_simp
    with_reducible rfl
  rotate_left
  · simp only [Act.put, List.setIfInBounds_toArray, List.set_cons_zero, List.set_cons_succ, i64_w, i32_w]
    rfl
  refine pure_ (i := 13) (N := some 66) (v := ?_) (a' := ?_) #[true, true, true, true, true, true, true, true, true, true, true, true, true, true, false, false, false] rfl rfl (any_of rfl (by kernel_rfl)) (fun _ _ _ h => h) (Or.inl ⟨by rfl, ?_⟩) ?_ ?_
  rotate_left
  · intro w'
    go_simp
    with_reducible rfl
  rotate_left
  · simp only [Act.put, List.setIfInBounds_toArray, List.set_cons_zero, List.set_cons_succ, i64_w, i32_w]
    rfl
  refine pure_ (i := 14) (N := some 67) (v := ?_) (a' := ?_) #[true, true, true, true, true, true, true, true, true, true, true, true, true, true, true, false, false] rfl rfl (any_of rfl (by kernel_rfl)) (fun _ _ _ h => h) (Or.inl ⟨by rfl, ?_⟩) ?_ ?_
  rotate_left
  · intro w'
    go_simp
    with_reducible rfl
  rotate_left
  · simp only [Act.put, List.setIfInBounds_toArray, List.set_cons_zero, List.set_cons_succ, i64_w, i32_w]
    rfl
  refine pure_ (i := 15) (N := some 68) (v := ?_) (a' := ?_) #[true, true, true, true, true, true, true, true, true, true, true, true, true, true, true, true, false] rfl rfl (any_of rfl (by kernel_rfl)) (fun _ _ _ h => h) (Or.inl ⟨by rfl, ?_⟩) ?_ ?_
  rotate_left
  · intro w'
    go_simp
    with_reducible rfl
  rotate_left
  · simp only [Act.put, List.setIfInBounds_toArray, List.set_cons_zero, List.set_cons_succ, i64_w, i32_w]
    rfl
  obtain ⟨f0, f1, f2, f3⟩ := two_facts hblk' h0' h1' (.string nm)
  obtain ⟨hP, hPg⟩ := col_put HT.out (i := i) HI.out ⟨nm, (wrap64 (kd + 1)).tmod 6⟩
  refine last_ (i := 16) (N := none) #[true, true, true, true, true, true, true, true, true, true, true, true, true, true, true, true, true] rfl rfl (one_of rfl (by kernel_rfl)) (by decide) (fun K hK => ?_)
  refine skip_ (w1 := (W.setCell ⟨gt, i * 2, none⟩ (.string nm)).setCell ⟨gt, i * 2 + 1, none⟩ (.int .i64 ((wrap64 (kd + 1)).tmod 6))) (by rfl) rfl (by go_simp) ?_
  refine hK.out _ _ ?_
  clear hK K
  clear f0 f1 f2 f3 h0' h1' hblk' hHeld
  obtain ⟨W8, hW8⟩ : ∃ W8, (W.setCell ⟨gt, i * 2, none⟩ (.string nm)).setCell ⟨gt, i * 2 + 1, none⟩ (.int .i64 ((wrap64 (kd + 1)).tmod 6)) = W8 := ⟨_, rfl⟩
  rw [hW8] at hP hPg ⊢
  rw [HQ.out, HTN.out] at hP
  replace HB := Aside0.mk (HB.out.grown hPg HB.out.size (fun k e => by injection e with e; rw [← e]; exact HGgt.out))
  replace HT := Aside0.mk hP
  clear hP hPg hW8 HQ HTN W
  refine done_ (done_of rfl (by kernel_rfl)) ?_
  clear q0 q1
  have HB8 := Aside0.mk HB.out
  have HT8 := Aside0.mk (show Kd.R k54 54 W8 w.heap.size (fun k => k < W8.heap.size) (.slice (some ⟨gt, 0, none⟩) n ct) (turn l i) from Kd.R_mono (Kd.R_bound HT.out) (fun k hk => hk.2.2.1))
  clear HT
  have HS8 := Aside0.mk (Nat.le_refl W8.heap.size)
  iterate 4 (first | go_step | skip)
  refine Kd.R_lit k54 54 ?hg (N := 69) ?hd (w0 := w) (base := w.heap.size) (xs := ([] : List Col)) (inner := []) (ok := fun _ => True) (okp := fun _ => False) ?hr ?hp (fun _ h => h.elim) trivial HB.out HB.out.size (by simp) ?_
  case hd => rfl
  case hg => rfl
  case hr => first | (go_simp; done) | (go_simp; rfl)
  case hp => exact Reps.none _ _
  intro v69 u9 ho hb hg hnew
  have HO0 := Aside0.mk ho
  have HCA := Aside0.mk (Kd.C_below HRR.out hb)
  have HT9 := Aside0.mk (Kd.R_step HT8.out (fun k _ hk => hg.block k hk (by simp)))
  obtain ⟨b9, hb9, hb9'⟩ := hnew
  have hsz9 := hg.size
  have HS9 := Aside0.mk (And.intro hsz9 (And.intro hb9 hb9'))
  replace HB := Aside0.mk hb
  clear ho hb hg hb9 hb9' hsz9 HT8
  iterate 3 (first | go_step | skip)
  refine Kd.R_append_rows k54 (w0 := w) w.heap.size rfl (.tmp 69) (.tmp 70) 47 54 (.agg #[.string ⟨#[]⟩, .int .i64 0]) 24 rfl Tryd.underlying47 infoC rfl (by decide) (by decide) _ ([] : List Col) l A n c (fun _ => True) (fun _ => False) rfl rfl HO0.out (by have h := HCA.out; rw [HNN.out] at h; exact h) (fun _ _ h => rows_M h) (fun _ h => h.elim) (fun _ _ => trivial) HB.out HB.out.size (by have := HSZ.out; simp only [List.length_nil]; omega) ?_
  intro v71 u10 ho hb hg hat
  rw [List.nil_append] at ho
  have hg' : u9.grownBy u10 v69.ownBlock := hg
  have HT10 := Aside0.mk (Kd.R_step HT9.out (fun k hk hk2 => hg'.block k hk2 (by have h := HS9.out.2.1; have h2 := HS9.out.2.2; intro e; rw [h] at e; injection e with e; omega)))
  have hat' : v71.ownBlock = v69.ownBlock ∨ ∃ b, v71.ownBlock = some b ∧ u9.heap.size ≤ b := hat
  have hown : ∀ k, v71.ownBlock = some k → W8.heap.size ≤ k := fun k hk => by
    rcases hat' with h | ⟨b, h, h2⟩
    · rw [h, HS9.out.2.1] at hk; injection hk with hk; have := HS9.out.2.2; omega
    · rw [h] at hk; injection hk with hk; have := HS9.out.1; omega
  obtain ⟨gu, cu, rfl, hgu, -, -⟩ := Kd.R_form ho (by rw [HNN.out]; have := HSZ.out; omega)
  rw [HNN.out] at ho ⊢
  have HUU := Aside0.mk ho
  replace HB := Aside0.mk hb
  have HGgu := Aside0.mk hgu
  have HG8 := Aside0.mk (hown gu (by simp [Value.ownBlock]))
  clear ho hb hg hg' hat hat' hown HO0 HCA HT9 hgu
  go_wp2_with fail
  obtain ⟨ad, e, h0, h1⟩ := at_T54 (Kd.R_reads' HUU.out).2.2 (i : Int) (by omega) (by have := HSZ.out; have := HI.out; have := HNN.out; omega)
  obtain rfl : (⟨gu, 0, none⟩ : Addr) = ad := Option.some.inj e
  clear e
  rw [Int.toNat_natCast, add_plain] at h0 h1
  obtain ⟨ad, e, z0, z1⟩ := at_T54 (Kd.R_reads' HUU.out).2.2 (0 : Int) (by omega) (by have := HSZ.out; have := HI.out; have := HNN.out; omega)
  obtain rfl : (⟨gu, 0, none⟩ : Addr) = ad := Option.some.inj e
  clear e
  rw [show ((0 : Int).toNat) = 0 from rfl, add_plain] at z0 z1
  have HSW := Aside0.mk (show (l.set 0 (rd_T54 l (i : Int))).set i (rd_T54 l 0) = swap l i from rfl)
  obtain ⟨ci, hci⟩ : ∃ z, rd_T54 l (i : Int) = z := ⟨_, rfl⟩
  obtain ⟨cz, hcz⟩ : ∃ z, rd_T54 l 0 = z := ⟨_, rfl⟩
  rw [hci] at h0 h1 HSW
  rw [hcz] at z0 z1 HSW
  obtain ⟨ni, ki⟩ := ci
  obtain ⟨nz, kz⟩ := cz
  simp only at h0 h1 z0 z1
  have q0 : (0 ≤ (i : Int)) = True := eq_true (by omega)
  have q1 : ((i : Int) < (n : Int)) = True := eq_true (by have := HI.out; omega)
  have q2 : ((0 : Int) < (n : Int)) = True := eq_true (by have := HSZ.out; omega)
  have q3 : (0 < n) = True := eq_true (by have := HSZ.out; omega)
  obtain ⟨g9, c9, e9, -, -, cells, hblk⟩ := Kd.R_form HUU.out (by rw [HNN.out]; have := HSZ.out; omega)
  obtain rfl : gu = g9 := by injection e9 with e9; injection e9 with e9; injection e9
  clear hci hcz e9
  refine start_ (n := 14) (S := fun w' => (w'.cell? ⟨gu, i * 2, none⟩ = some (.string ni) ∧ w'.cell? ⟨gu, i * 2 + 1, none⟩ = some (.int .i64 ki)) ∧ w'.cell? ⟨gu, 0, none⟩ = some (.string nz) ∧ w'.cell? ⟨gu, 0 + 1, none⟩ = some (.int .i64 kz)) (ds := [11, 13]) #[false, false, false, false, false, false, false, false, false, false, false, false, false, false] (by kernel_rfl) rfl rfl ⟨⟨h0, h1⟩, z0, z1⟩ (fun hHeld => ?_)
  replace HB := Aside0.mk (below_drew1 HB.out)
  replace HUU := Aside0.mk (Kd.R_drew HUU.out)
  replace HT10 := Aside0.mk (Kd.R_drew HT10.out)
  have hblk' : u10.drew.heap[gu]? = _ := hblk
  have z0' : u10.drew.cell? ⟨gu, 0, none⟩ = some (.string nz) := z0
  have z1' : u10.drew.cell? ⟨gu, 0 + 1, none⟩ = some (.int .i64 kz) := z1
  clear h0 h1 z0 z1 hblk
  generalize u10.drew = W at *
  clear u10
  refine pure_ (i := 0) (N := some 72) (v := ?_) (a' := ?_) #[true, false, false, false, false, false, false, false, false, false, false, false, false, false] rfl rfl (any_of rfl (by kernel_rfl)) (fun _ _ _ h => h) (Or.inl ⟨by rfl, ?_⟩) ?_ ?_
  rotate_left
  · intro w'
    go_simp
    with_reducible rfl
  rotate_left
  · simp only [Act.put, List.setIfInBounds_toArray, List.set_cons_zero, List.set_cons_succ, i64_w, i32_w]
    rfl
  refine pure_ (i := 1) (N := some 73) (v := ?_) (a' := ?_) #[true, true, false, false, false, false, false, false, false, false, false, false, false, false] rfl rfl (any_of rfl (by kernel_rfl)) (fun _ _ _ h => h) (Or.inl ⟨by rfl, ?_⟩) ?_ ?_
  rotate_left
  · intro w'
    go_simp
    with_reducible rfl
  rotate_left
  · simp only [Act.put, List.setIfInBounds_toArray, List.set_cons_zero, List.set_cons_succ, i64_w, i32_w]
    rfl
  refine pure_ (i := 2) (N := some 74) (v := ?_) (a' := ?_) #[true, true, true, false, false, false, false, false, false, false, false, false, false, false] rfl rfl (any_of rfl (by kernel_rfl)) (fun _ _ _ h => h) (Or.inl ⟨by rfl, ?_⟩) ?_ ?_
  rotate_left
  · intro w'
    go_simp
    with_reducible rfl
  rotate_left
  · simp only [Act.put, List.setIfInBounds_toArray, List.set_cons_zero, List.set_cons_succ, i64_w, i32_w]
    rfl
  refine pure_ (i := 3) (N := some 75) (v := ?_) (a' := ?_) #[true, true, true, true, false, false, false, false, false, false, false, false, false, false] rfl rfl (any_of rfl (by kernel_rfl)) (fun _ _ _ h => h) (Or.inl ⟨by rfl, ?_⟩) ?_ ?_
  rotate_left
  · intro w'
    go_simp
    with_reducible rfl
  rotate_left
  · simp only [Act.put, List.setIfInBounds_toArray, List.set_cons_zero, List.set_cons_succ, i64_w, i32_w]
    rfl
  refine pure_ (i := 4) (N := some 76) (v := ?_) (a' := ?_) #[true, true, true, true, true, false, false, false, false, false, false, false, false, false] rfl rfl (any_of rfl (by kernel_rfl)) (fun _ _ _ h => h) (Or.inl ⟨by rfl, ?_⟩) ?_ ?_
  rotate_left
  · intro w'
    go_simp
    with_reducible rfl
  rotate_left
  · simp only [Act.put, List.setIfInBounds_toArray, List.set_cons_zero, List.set_cons_succ, i64_w, i32_w]
    rfl
  refine pure_ (i := 7) (N := some 79) (v := ?_) (a' := ?_) #[true, true, true, true, true, false, false, true, false, false, false, false, false, false] rfl rfl (any_of rfl (by kernel_rfl)) (fun _ _ _ h => h) (Or.inl ⟨by rfl, ?_⟩) ?_ ?_
  rotate_left
  · intro w'
    go_simp
    with_reducible rfl
  rotate_left
  · simp only [Act.put, List.setIfInBounds_toArray, List.set_cons_zero, List.set_cons_succ, i64_w, i32_w]
    rfl
  refine pure_ (i := 5) (N := some 77) (v := ?_) (a' := ?_) #[true, true, true, true, true, true, false, true, false, false, false, false, false, false] rfl rfl (any_of rfl (by kernel_rfl)) (fun _ _ _ h => h) (Or.inl ⟨by rfl, ?_⟩) ?_ ?_
  rotate_left
  · intro w'
    go_simp
    with_reducible rfl
  rotate_left
  · simp only [Act.put, List.setIfInBounds_toArray, List.set_cons_zero, List.set_cons_succ, i64_w, i32_w]
    rfl
  refine pure_ (i := 8) (N := some 80) (v := ?_) (a' := ?_) #[true, true, true, true, true, true, false, true, true, false, false, false, false, false] rfl rfl (any_of rfl (by kernel_rfl)) (fun _ _ _ h => h) (Or.inl ⟨by rfl, ?_⟩) ?_ ?_
  rotate_left
  · intro w'
    go_simp
    with_reducible rfl
  rotate_left
  · simp only [Act.put, List.setIfInBounds_toArray, List.set_cons_zero, List.set_cons_succ, i64_w, i32_w]
    rfl
  refine take_ (i := 6) (N := some 78) (v := ?_) (a' := ?_) #[true, true, true, true, true, true, true, true, true, false, false, false, false, false] rfl rfl (take_of rfl (by kernel_rfl)) (fun _ _ _ h => h) (Or.inl ⟨by rfl, ?_⟩) hHeld ?_ ?_
  rotate_left
  · rintro w' ⟨⟨s0, s1⟩, s2, s3⟩
    go_simp
    with_reducible rfl
  rotate_left
  · simp only [Act.put, List.setIfInBounds_toArray, List.set_cons_zero, List.set_cons_succ, i64_w, i32_w]
    rfl
  refine take_ (i := 9) (N := some 81) (v := ?_) (a' := ?_) #[true, true, true, true, true, true, true, true, true, true, false, false, false, false] rfl rfl (take_of rfl (by kernel_rfl)) (fun _ _ _ h => h) (Or.inl ⟨by rfl, ?_⟩) hHeld ?_ ?_
  rotate_left
  · rintro w' ⟨⟨s0, s1⟩, s2, s3⟩
    go_simp
    with_reducible rfl
  rotate_left
  · simp only [Act.put, List.setIfInBounds_toArray, List.set_cons_zero, List.set_cons_succ, i64_w, i32_w]
    rfl
  refine pure_ (i := 10) (N := some 82) (v := ?_) (a' := ?_) #[true, true, true, true, true, true, true, true, true, true, true, false, false, false] rfl rfl (any_of rfl (by kernel_rfl)) (fun _ _ _ h => h) (Or.inl ⟨by rfl, ?_⟩) ?_ ?_
  rotate_left
  · intro w'
    go_simp
    with_reducible rfl
  rotate_left
  · simp only [Act.put, List.setIfInBounds_toArray, List.set_cons_zero, List.set_cons_succ, i64_w, i32_w]
    rfl
  obtain ⟨f0, f1, f2, f3⟩ := two_facts hblk' z0' z1' (.string ni)
  obtain ⟨hP, hPg⟩ := col_put HUU.out (i := 0) (by have := HSZ.out; omega) ⟨ni, ki⟩
  refine last_ (i := 11) (N := none) #[true, true, true, true, true, true, true, true, true, true, true, true, false, false] rfl rfl (one_of rfl (by kernel_rfl)) (by decide) (fun K hK => ?_)
  refine skip_ (w1 := (W.setCell ⟨gu, 0, none⟩ (.string ni)).setCell ⟨gu, 0 + 1, none⟩ (.int .i64 ki)) (by rfl) rfl (by go_simp) ?_
  refine hK.out _ _ ?_
  clear hK K
  obtain ⟨W9, hW9⟩ : ∃ W9, (W.setCell ⟨gu, 0, none⟩ (.string ni)).setCell ⟨gu, 0 + 1, none⟩ (.int .i64 ki) = W9 := ⟨_, rfl⟩
  have hP' : Kd.R k54 54 ((W.setCell ⟨gu, 0, none⟩ (.string ni)).setCell ⟨gu, 0 + 1, none⟩ (.int .i64 ki)) w.heap.size (fun _ => True) (.slice (some ⟨gu, 0, none⟩) n cu) (l.set 0 ⟨ni, ki⟩) := hP
  have hPg' : W.grownBy ((W.setCell ⟨gu, 0, none⟩ (.string ni)).setCell ⟨gu, 0 + 1, none⟩ (.int .i64 ki)) (some gu) := hPg
  rw [hW9] at hP' hPg' ⊢
  replace HB := Aside0.mk (HB.out.grown hPg' HB.out.size (fun k e => by injection e with e; rw [← e]; exact HGgu.out))
  replace HT10 := Aside0.mk (Kd.R_step HT10.out (fun k hk hk2 => hPg'.block k hk2 (by have := HG8.out; intro e; injection e with e; omega)))
  replace HUU := Aside0.mk hP'
  clear hP hPg hP' hPg' hW9 f0 f1 f2 f3 z0' z1' hblk' hHeld W
  refine pure_ (i := 12) (N := some 83) (v := ?_) (a' := ?_) #[true, true, true, true, true, true, true, true, true, true, true, true, true, false] rfl rfl (any_of rfl (by kernel_rfl)) (fun _ _ _ h => h) (Or.inl ⟨by rfl, ?_⟩) ?_ ?_
  rotate_left
  · intro w'
    go_simp
    with_reducible rfl
  rotate_left
  · simp only [Act.put, List.setIfInBounds_toArray, List.set_cons_zero, List.set_cons_succ, i64_w, i32_w]
    rfl
  obtain ⟨ad, e, y0, y1⟩ := at_T54 (Kd.R_reads' HUU.out).2.2 (i : Int) (by omega) (by have := HI.out; have := HNN.out; rw [List.length_set]; omega)
  obtain rfl : (⟨gu, 0, none⟩ : Addr) = ad := Option.some.inj e
  rw [Int.toNat_natCast, add_plain] at y0 y1
  obtain ⟨g9, c9, e9, -, -, cells9, hblk9⟩ := Kd.R_form HUU.out (by rw [List.length_set, HNN.out]; have := HSZ.out; omega)
  obtain rfl : gu = g9 := by injection e9 with e9; injection e9 with e9; injection e9
  obtain ⟨f0, f1, f2, f3⟩ := two_facts hblk9 y0 y1 (.string nz)
  obtain ⟨hP, hPg⟩ := col_put HUU.out (i := i) HI.out ⟨nz, kz⟩
  refine last_ (i := 13) (N := none) #[true, true, true, true, true, true, true, true, true, true, true, true, true, true] rfl rfl (one_of rfl (by kernel_rfl)) (by decide) (fun K hK => ?_)
  refine skip_ (w1 := (W9.setCell ⟨gu, i * 2, none⟩ (.string nz)).setCell ⟨gu, i * 2 + 1, none⟩ (.int .i64 kz)) (by rfl) rfl (by go_simp) ?_
  refine hK.out _ _ ?_
  clear hK K
  obtain ⟨W10, hW10⟩ : ∃ W10, (W9.setCell ⟨gu, i * 2, none⟩ (.string nz)).setCell ⟨gu, i * 2 + 1, none⟩ (.int .i64 kz) = W10 := ⟨_, rfl⟩
  rw [hW10] at hP hPg ⊢
  rw [HSW.out] at hP
  replace HB := Aside0.mk (HB.out.grown hPg HB.out.size (fun k e => by injection e with e; rw [← e]; exact HGgu.out))
  replace HT10 := Aside0.mk (Kd.R_step HT10.out (fun k hk hk2 => hPg.block k hk2 (by have := HG8.out; intro e; injection e with e; omega)))
  replace HUU := Aside0.mk hP
  clear hP hPg hW10 f0 f1 f2 f3 y0 y1 hblk9 e e9 W9 HSW
  refine done_ (done_of rfl (by kernel_rfl)) ?_
  clear q0 q1 q2 q3
  go_wp2_with fail
  refine (HWR.out _ HB.out).mono ?_
  rintro e x1 ⟨va, rfl, hv, hb⟩
  simp only [if_true] at hv
  obtain ⟨vaA, vac, rfl, -, hC⟩ := Kd.R_reads hv
  have HCa := Aside0.mk hC
  replace HT10 := Aside0.mk (Kd.R_below HT10.out hb)
  replace HUU := Aside0.mk (Kd.R_below HUU.out hb)
  replace HB := Aside0.mk (below_step HB.out hb)
  clear hv hb hC
  go_wp2_with fail
  have len : (turn l i).length = n := by rw [← HNN.out]; unfold turn; rw [List.length_set]
  have hin := HI.out
  have okm := turn_ok HK.out (show i < l.length by have := HNN.out; omega)
  have hw2 := HW2.out (turn l i) okm (some ⟨gt, 0, none⟩) ct _ HB.out (Kd.R_reads' HT10.out).2.2 (by have := (Kd.R_reads' HT10.out).1; have := (Kd.R_reads' HT10.out).2.1; omega)
  rw [len, okm] at hw2
  refine (hw2).mono ?_
  rintro e x2 ⟨vb, rfl, hv, hb⟩
  simp only [if_true] at hv
  obtain ⟨vbA, vbc, rfl, -, hC⟩ := Kd.R_reads hv
  have HCb := Aside0.mk hC
  replace HT10 := Aside0.mk (Kd.R_below HT10.out hb)
  replace HUU := Aside0.mk (Kd.R_below HUU.out hb)
  replace HCa := Aside0.mk (Kd.C_below HCa.out hb)
  replace HB := Aside0.mk (below_step HB.out hb)
  clear hv hb hC
  clear hw2 okm len hin
  go_wp2_with fail
  have len : (swap l i).length = n := by rw [← HNN.out]; exact swap_len l i
  have hin := HI.out
  have okm := swap_ok HK.out (show i < l.length by have := HNN.out; omega)
  have hw2 := HW2.out (swap l i) okm (some ⟨gu, 0, none⟩) cu _ HB.out (Kd.R_reads' HUU.out).2.2 (by have := (Kd.R_reads' HUU.out).1; have := (Kd.R_reads' HUU.out).2.1; omega)
  rw [len, okm] at hw2
  refine (hw2).mono ?_
  rintro e x3 ⟨vc, rfl, hv, hb⟩
  simp only [if_true] at hv
  obtain ⟨vcA, vcc, rfl, -, hC⟩ := Kd.R_reads hv
  have HCc := Aside0.mk hC
  replace HT10 := Aside0.mk (Kd.R_below HT10.out hb)
  replace HUU := Aside0.mk (Kd.R_below HUU.out hb)
  replace HCa := Aside0.mk (Kd.C_below HCa.out hb)
  replace HCb := Aside0.mk (Kd.C_below HCb.out hb)
  replace HB := Aside0.mk (below_step HB.out hb)
  clear hv hb hC
  clear hw2 okm len hin
  obtain ⟨sa, hsa⟩ : ∃ z, strOfNums (wS l) = z := ⟨_, rfl⟩
  obtain ⟨sb, hsb⟩ : ∃ z, strOfNums (wS (turn l i)) = z := ⟨_, rfl⟩
  obtain ⟨sc, hsc⟩ : ∃ z, strOfNums (wS (swap l i)) = z := ⟨_, rfl⟩
  have hil : i < l.length := by have := HNN.out; have := HI.out; omega
  have oT := turn_ok HK.out hil
  have oS := swap_ok HK.out hil
  have nab : sa.toList ≠ sb.toList := fun h => by
    rw [str_toList, str_toList] at h
    exact turn_ne HK.out hil (wS_inj HK.out oT (str_inj wS_bytes wS_bytes (by rw [hsa, hsb]; exact data_inj h)))
  have iac : sa.toList = sc.toList ↔ i = 0 := by
    rw [str_toList, str_toList]
    constructor
    · intro h
      exact (swap_eq HK.out hil).1 (wS_inj HK.out oS (str_inj wS_bytes wS_bytes (by rw [hsa, hsc]; exact data_inj h)))
    · intro h
      rw [← hsa, ← hsc, ← (swap_eq HK.out hil).2 h]
  have et : eqs l (turn l i) = false := by
    cases e : eqs l (turn l i)
    · rfl
    · exact absurd ((eqs_iff _ _).1 e) (turn_ne HK.out hil)
  have lT : (turn l i).length = n := by rw [← HNN.out]; unfold turn; rw [List.length_set]
  have lS : (swap l i).length = n := by rw [← HNN.out]; exact swap_len l i
  have HST := Aside0.mk (fun (W : World) (hr : Kd.C k54 W A l.length l) (h : Kd.C k54 W (some ⟨gt, 0, none⟩) (turn l i).length (turn l i)) => same_calls (c := c) (c' := ct) W hr h)
  have HSS := Aside0.mk (fun (W : World) (hr : Kd.C k54 W A l.length l) (h : Kd.C k54 W (some ⟨gu, 0, none⟩) (swap l i).length (swap l i)) => same_calls (c := c) (c' := cu) W hr h)
  have hfacts := And.intro hsa (And.intro hsb hsc)
  have ka := Kd.C_string (P := Tryd.prog) (c := vac) Tryd.underlying55 Tryd.underlying5 Tryd.underlying9 HCa.out
  have kb := Kd.C_string (P := Tryd.prog) (c := vbc) Tryd.underlying55 Tryd.underlying5 Tryd.underlying9 HCb.out
  rw [hsa] at ka
  rw [hsb] at kb
  have n1 : (sa.toList = sb.toList) = False := eq_false nab
  have n2 : (sa.toList == sb.toList) = false := beq_eq_false_iff_ne.mpr nab
  have n3 : (sa.toList != sb.toList) = true := bne_iff_ne.mpr nab
  have h1 := HST.out x3 (Kd.C_below HRR.out HB.out) (Kd.R_reads' HT10.out).2.2
  rw [HNN.out, lT, et] at h1
  have HS1 := Aside0.mk h1
  have HLS := Aside0.mk lS
  have HIAC := Aside0.mk iac
  have HIL := Aside0.mk hil
  have HSA := Aside0.mk hsa
  have HSC := Aside0.mk hsc
  clear h1 et lT lS nab iac hil oT oS hfacts hsa hsb hsc HST
  go_wp2_with fail
  clear ka kb n1 n2 n3
  refine (HS1.out).mono ?_
  rintro e x4 ⟨rfl, hb⟩
  replace HUU := Aside0.mk (Kd.R_below HUU.out hb)
  replace HCa := Aside0.mk (Kd.C_below HCa.out hb)
  replace HCc := Aside0.mk (Kd.C_below HCc.out hb)
  replace HB := Aside0.mk (below_step HB.out hb)
  clear hb HS1 HT10 HCb
  have ka := Kd.C_string (P := Tryd.prog) (c := vac) Tryd.underlying55 Tryd.underlying5 Tryd.underlying9 HCa.out
  have kc := Kd.C_string (P := Tryd.prog) (c := vcc) Tryd.underlying55 Tryd.underlying5 Tryd.underlying9 HCc.out
  rw [HSA.out] at ka
  rw [HSC.out] at kc
  have h2 := HSS.out x4 (Kd.C_below HRR.out HB.out) (Kd.R_reads' HUU.out).2.2
  rw [HNN.out, HLS.out] at h2
  by_cases hi0 : i = 0
  · have m1 : (sa.toList = sc.toList) = True := eq_true (HIAC.out.2 hi0)
    have m2 : (sa.toList == sc.toList) = true := beq_iff_eq.2 (HIAC.out.2 hi0)
    have m3 : ((i : Int) == 0) = true := by rw [hi0]; rfl
    have m4 : ((i : Int) = 0) = True := eq_true (by omega)
    have m5 : (i = 0) = True := eq_true hi0
    have es : eqs l (swap l i) = true := by
      exact (eqs_iff _ _).2 ((swap_eq HK.out HIL.out).2 hi0)
    rw [es] at h2
    have HS2 := Aside0.mk h2
    clear h2 es hi0 HSS HIAC HIL HSA HSC HLS
    go_wp2_with fail
    clear ka kc
    refine (HS2.out).mono ?_
    rintro e x5 ⟨rfl, hb⟩
    have hfin := Aside0.mk (below_step HB.out hb)
    clear hb
    go_wp2_with fail
    go_ret
    exact ⟨rfl, hfin.out⟩
  · have m1 : (sa.toList = sc.toList) = False := eq_false (fun h => hi0 (HIAC.out.1 h))
    have m2 : (sa.toList == sc.toList) = false := beq_eq_false_iff_ne.mpr (fun h => hi0 (HIAC.out.1 h))
    have m3 : ((i : Int) == 0) = false := beq_eq_false_iff_ne.mpr (by omega)
    have m4 : ((i : Int) = 0) = False := eq_false (by omega)
    have m5 : (i = 0) = False := eq_false hi0
    have es : eqs l (swap l i) = false := by
      cases e : eqs l (swap l i)
      · rfl
      · exact absurd ((swap_eq HK.out HIL.out).1 ((eqs_iff _ _).1 e)) hi0
    rw [es] at h2
    have HS2 := Aside0.mk h2
    clear h2 es hi0 HSS HIAC HIL HSA HSC HLS
    go_wp2_with fail
    clear ka kc
    refine (HS2.out).mono ?_
    rintro e x5 ⟨rfl, hb⟩
    have hfin := Aside0.mk (below_step HB.out hb)
    clear hb
    go_wp2_with fail
    go_ret
    exact ⟨rfl, hfin.out⟩
end Go.Proofs.YtnmjelcicbfjdaaDoor.Sc
