import Derived.Test.YtnmjelcicbfjdaaDoorScK
/-! SchemaWrites: the call. -/
namespace Go.Proofs.YtnmjelcicbfjdaaDoor.Sc
open Go.RowKit Go.Proofs.YtnmjelcicbfjdaaDoorW.PrintWords Go.Proofs.YtnmjelcicbfjdaaDoorW.PrintLast Go.Proofs.YtnmjelcicbfjdaaDoorW.PrintMore Go.Proofs.YtnmjelcicbfjdaaDoor.Wire Go.Proofs.YtnmjelcicbfjdaaDoor.PSc Go.Proofs.YtnmjelcicbfjdaaDoor.Co Go.Proofs.YtnmjelcicbfjdaaDoor.Ce
set_option linter.unusedVariables false
set_option linter.unusedSimpArgs false
set_option maxRecDepth 100000
theorem eqs_refl (l : List Col) : eqs l l = true := (eqs_iff l l).2 rfl
set_option maxHeartbeats 32000000 in
theorem writes_calls {A A' : Option Addr} {c c' : Nat} {l m : List Col} (w : World) (hN : NamesW w) (hM : MaxW w) (hr : Kd.C k54 w A l.length l) (hc : l.length ≤ c) (hs : ∀ i, (rd_T54 l i).f0.size ≤ 9223372036854775807) (hr' : Kd.C k54 w A' m.length m) (hc' : m.length ≤ c') (hlm : l.length ≤ 9223372036854775806) :
    Calls Tryd.prog 8 #[.slice A l.length c, .slice A' m.length c'] w fun e w' => e = .returned (.bool true) ∧ Below w.heap.size w w' := by
  have HAL := Aside0.mk (fun (W : World) (hb : Below w.heap.size w W) => alive_calls W (hN.below hb) (hM.below hb))
  obtain ⟨g, hg⟩ := great_calls (c := c) w hr hc
  have HGR := Aside0.mk hg
  obtain ⟨g', hg'⟩ := great_calls (c := c') w hr' hc'
  have HGR' := Aside0.mk hg'
  have HCK := Aside0.mk (fun (W : World) (hb : Below w.heap.size w W) => scheck_calls (c := c) W (hN.below hb) (Kd.C_below hr hb) hc hs)
  have HRC := Aside0.mk (fun (W : World) (hb : Below w.heap.size w W) => rck_calls (c := c) W (Kd.C_below hr hb) hc)
  have HPR := Aside0.mk (fun (W : World) (hb : Below w.heap.size w W) => sprint_calls (c := c) W (hN.below hb) (Kd.C_below hr hb) hc hs)
  have HWR := Aside0.mk (fun (W : World) (hb : Below w.heap.size w W) => swrite_calls (c := c) W (hN.below hb) (Kd.C_below hr hb) hc hs)
  have HTX := Aside0.mk (fun (W : World) (hb : Below w.heap.size w W) => stext_calls (c := c) W (hN.below hb) (Kd.C_below hr hb) hc hs)
  have HSM := Aside0.mk (fun (W : World) (hb : Below w.heap.size w W) => same_calls (c := c) (c' := c') W (Kd.C_below hr hb) (Kd.C_below hr' hb))
  have HSR := Aside0.mk (fun (W : World) (hb : Below w.heap.size w W) => rsame_calls (c := c) (c' := c') W (Kd.C_below hr hb) hc (Kd.C_below hr' hb) hc' hlm)
  have HSS := Aside0.mk (fun (W : World) (hb : Below w.heap.size w W) => same_calls (c := c) (c' := c) W (Kd.C_below hr hb) (Kd.C_below hr hb))
  have HRW := Aside0.mk (fun (hk : sck l = 0) (W : World) (hb : Below w.heap.size w W) => rwrite_calls (c := c) W hk (Kd.C_below hr hb) hc)
  have HRP := Aside0.mk (fun (hk : sck l = 0) (W : World) (hb : Below w.heap.size w W) => rprint_calls (c := c) W hk (Kd.C_below hr hb) hc)
  have HRT := Aside0.mk (fun (hk : sck l = 0) (W : World) (hb : Below w.heap.size w W) => rtext_calls (c := c) W hk (Kd.C_below hr hb) hc)
  obtain ⟨n, hn⟩ : ∃ n, l.length = n := ⟨_, rfl⟩
  obtain ⟨n', hn'⟩ : ∃ n', m.length = n' := ⟨_, rfl⟩
  rw [hn] at HGR HCK HRC HPR HWR HTX HSM HSR HSS HRW HRP HRT ⊢
  rw [hn'] at HGR' HSM HSR ⊢
  obtain ⟨q, hq⟩ : ∃ q, eqs l m = q := ⟨_, rfl⟩
  rw [hq] at HSM HSR
  rw [eqs_refl] at HSS
  have hpr : prt l = if sck l = 0 then crc (wS l) else 0 := rfl
  have hst : stxt l = if sck l = 0 then txt l else ⟨#[]⟩ := rfl
  have hwr := HWR
  clear HWR
  have qq : (q != q) = false := by cases q <;> rfl
  clear hN hM hr hc hs hr' hc' hlm hg hg' hn hn' hq
  by_cases hk0 : sck l = 0
  · rw [if_pos hk0] at hpr hst
    simp only [if_pos hk0] at hwr
    have HWR := hwr
    rw [hpr] at HPR
    rw [hst] at HTX
    replace HRW := Aside0.mk (HRW.out hk0)
    replace HRP := Aside0.mk (HRP.out hk0)
    replace HRT := Aside0.mk (HRT.out hk0)
    rw [hk0] at HCK HRC HPR HWR HTX
    clear hwr hpr hst hk0
    obtain ⟨tx, htx⟩ : ∃ z, txt l = z := ⟨_, rfl⟩
    rw [htx] at HTX HRT
    obtain ⟨pr, hpr⟩ : ∃ z, crc (wS l) = z := ⟨_, rfl⟩
    rw [hpr] at HPR HRP
    obtain ⟨L, hL⟩ : ∃ z, wS l = z := ⟨_, rfl⟩
    rw [hL] at HWR HRW
    clear htx hpr hL
    go_enter Tryd.func8, Tryd.ntmps8
    go_wp2_with fail
    refine (HAL.out _ (Below.refl _ _)).mono ?_
    rintro e u1 ⟨rfl, hb⟩
    have HB := Aside0.mk hb
    clear hb
    go_wp2_with fail
    refine (HGR.out _ HB.out).mono ?_
    rintro e u2 ⟨rfl, hb⟩
    replace HB := Aside0.mk (below_step HB.out hb)
    clear hb
    cases g
    case true =>
      go_wp2_with fail
      refine (HAL.out _ HB.out).mono ?_
      rintro e wq ⟨rfl, hq⟩
      have hfin := below_step HB.out hq
      clear hq
      go_wp2_with fail
      go_ret
      exact ⟨rfl, hfin⟩
    go_wp2_with fail
    refine (HGR'.out _ HB.out).mono ?_
    rintro e u3 ⟨rfl, hb⟩
    replace HB := Aside0.mk (below_step HB.out hb)
    clear hb
    cases g'
    case true =>
      go_wp2_with fail
      refine (HAL.out _ HB.out).mono ?_
      rintro e wq ⟨rfl, hq⟩
      have hfin := below_step HB.out hq
      clear hq
      go_wp2_with fail
      go_ret
      exact ⟨rfl, hfin⟩
    go_wp2_with fail
    refine (HWR.out _ HB.out).mono ?_
    rintro e u4 ⟨v, rfl, hv, hb⟩
    obtain ⟨A1, c1, rfl, -, hC⟩ := Kd.R_reads hv
    have HCa := Aside0.mk hC
    replace HB := Aside0.mk (below_step HB.out hb)
    clear hv hb hC
    go_wp2_with fail
    refine (HPR.out _ HB.out).mono ?_
    rintro e u5 ⟨rfl, hb⟩
    replace HCa := Aside0.mk (Kd.C_below HCa.out hb)
    replace HB := Aside0.mk (below_step HB.out hb)
    clear hb
    go_wp2_with fail
    refine (HTX.out _ HB.out).mono ?_
    rintro e u6 ⟨rfl, hb⟩
    replace HCa := Aside0.mk (Kd.C_below HCa.out hb)
    replace HB := Aside0.mk (below_step HB.out hb)
    clear hb
    go_wp2_with fail
    refine (HRC.out _ HB.out).mono ?_
    rintro e u7 ⟨rfl, hb⟩
    replace HCa := Aside0.mk (Kd.C_below HCa.out hb)
    replace HB := Aside0.mk (below_step HB.out hb)
    clear hb
    go_wp2_with fail
    refine (HCK.out _ HB.out).mono ?_
    rintro e u8 ⟨rfl, hb⟩
    replace HCa := Aside0.mk (Kd.C_below HCa.out hb)
    replace HB := Aside0.mk (below_step HB.out hb)
    clear hb
    go_wp2_with fail
    refine (HSM.out _ HB.out).mono ?_
    rintro e u9 ⟨rfl, hb⟩
    replace HCa := Aside0.mk (Kd.C_below HCa.out hb)
    replace HB := Aside0.mk (below_step HB.out hb)
    clear hb
    go_wp2_with fail
    refine (HSR.out _ HB.out).mono ?_
    rintro e u10 ⟨rfl, hb⟩
    replace HCa := Aside0.mk (Kd.C_below HCa.out hb)
    replace HB := Aside0.mk (below_step HB.out hb)
    clear hb
    go_wp2_with fail
    refine (HSS.out _ HB.out).mono ?_
    rintro e u11 ⟨rfl, hb⟩
    replace HCa := Aside0.mk (Kd.C_below HCa.out hb)
    replace HB := Aside0.mk (below_step HB.out hb)
    clear hb
    clear qq
    go_wp2_with fail
    replace HCa := Aside0.mk (Kd.C_drew HCa.out)
    replace HB := Aside0.mk (below_drew1 HB.out)
    refine start_ (n := 19) (S := fun w' => Kd.C (Kd.int .u8) w' A1 L.length L) (ds := []) #[false, false, false, false, false, false, false, false, false, false, false, false, false, false, false, false, false, false, false] (by kernel_rfl) rfl rfl HCa.out (fun hHeld => ?_)
    generalize u11.drew = W at *
    obtain ⟨sa, hsa⟩ : ∃ z, strOfNums L = z := ⟨_, rfl⟩
    refine pure_ (i := 0) (N := some 87) (v := ?_) (a' := ?_) #[true, false, false, false, false, false, false, false, false, false, false, false, false, false, false, false, false, false, false] rfl rfl (any_of rfl (by kernel_rfl)) (fun _ _ _ h => h) (Or.inl ⟨by rfl, ?_⟩) ?_ ?_
    rotate_left
    · intro w'
      go_simp
      with_reducible rfl
    rotate_left
    · simp only [Act.put, List.setIfInBounds_toArray, List.set_cons_zero, List.set_cons_succ, i64_w, i32_w]
      rfl
    refine pure_ (i := 2) (N := some 89) (v := ?_) (a' := ?_) #[true, false, true, false, false, false, false, false, false, false, false, false, false, false, false, false, false, false, false] rfl rfl (any_of rfl (by kernel_rfl)) (fun _ _ _ h => h) (Or.inl ⟨by rfl, ?_⟩) ?_ ?_
    rotate_left
    · intro w'
      go_simp
      with_reducible rfl
    rotate_left
    · simp only [Act.put, List.setIfInBounds_toArray, List.set_cons_zero, List.set_cons_succ, i64_w, i32_w]
      rfl
    refine take_ (i := 1) (N := some 88) (v := ?_) (a' := ?_) #[true, true, true, false, false, false, false, false, false, false, false, false, false, false, false, false, false, false, false] rfl rfl (take_of rfl (by kernel_rfl)) (fun _ _ _ h => h) (Or.inl ⟨by rfl, ?_⟩) hHeld ?_ ?_
    rotate_left
    · rintro w' s0
      have kc := Kd.C_string (P := Tryd.prog) (c := c1) Tryd.underlying55 Tryd.underlying5 Tryd.underlying9 s0
      rw [hsa] at kc
      go_simp
      with_reducible rfl
    rotate_left
    · simp only [Act.put, List.setIfInBounds_toArray, List.set_cons_zero, List.set_cons_succ, i64_w, i32_w]
      rfl
    refine one_ (i := 3) (N := some 90) #[true, true, true, true, false, false, false, false, false, false, false, false, false, false, false, false, false, false, false] rfl rfl (one_of rfl (by kernel_rfl)) (by decide) (fun K hK => ?_)
    refine goes_ Tryd.func34 (by kernel_rfl) rfl #[.slice A n c] (by rfl) rfl rfl (by (try simp only [List.map_toArray, List.map_cons, List.map_nil]); rfl) ?_
    refine (HRW.out _ HB.out).mono ?_
    rintro e w2 ⟨v2, rfl, hv, hb⟩
    refine ⟨_, rfl, ?_⟩
    obtain ⟨A2, c2, rfl, -, hC2⟩ := Kd.R_reads hv
    refine hK.out _ _ (Kd.C_below HCa.out hb) (fun hHeld => ?_)
    clear hK K
    refine norm_ (a' := ?_) ?_ ?_
    rotate_left
    · show Act.put _ (some 90) _ = _
      simp only [Act.put, List.setIfInBounds_toArray, List.set_cons_zero, List.set_cons_succ, i64_w, i32_w]
      rfl
    replace HCa := Aside0.mk (Kd.C_below HCa.out hb)
    replace HB := Aside0.mk (below_step HB.out hb)
    have kc := Kd.C_string (P := Tryd.prog) (c := c2) Tryd.underlying55 Tryd.underlying5 Tryd.underlying9 hC2
    rw [hsa] at kc
    clear hb hv
    refine one_ (i := 4) (N := some 91) #[true, true, true, true, true, false, false, false, false, false, false, false, false, false, false, false, false, false, false] rfl rfl (one_of rfl (by kernel_rfl)) (by decide) (fun K hK => ?_)
    refine value_ (v := .string sa) (w1 := w2) (by rfl) rfl (by go_simp) ?_
    refine hK.out _ _ HCa.out (fun hHeld => ?_)
    clear hK K
    refine norm_ (a' := ?_) ?_ ?_
    rotate_left
    · show Act.put _ (some 91) _ = _
      simp only [Act.put, List.setIfInBounds_toArray, List.set_cons_zero, List.set_cons_succ, i64_w, i32_w]
      rfl
    clear kc hC2
    refine pure_ (i := 5) (N := some 92) (v := ?_) (a' := ?_) #[true, true, true, true, true, true, false, false, false, false, false, false, false, false, false, false, false, false, false] rfl rfl (any_of rfl (by kernel_rfl)) (fun _ _ _ h => h) (Or.inl ⟨by rfl, ?_⟩) ?_ ?_
    rotate_left
    · intro w'
      go_simp
      with_reducible rfl
    rotate_left
    · simp only [Act.put, List.setIfInBounds_toArray, List.set_cons_zero, List.set_cons_succ, i64_w, i32_w]
      rfl
    refine pure_ (i := 6) (N := some 93) (v := ?_) (a' := ?_) #[true, true, true, true, true, true, true, false, false, false, false, false, false, false, false, false, false, false, false] rfl rfl (any_of rfl (by kernel_rfl)) (fun _ _ _ h => h) (Or.inl ⟨by rfl, ?_⟩) ?_ ?_
    rotate_left
    · intro w'
      go_simp
      with_reducible rfl
    rotate_left
    · simp only [Act.put, List.setIfInBounds_toArray, List.set_cons_zero, List.set_cons_succ, i64_w, i32_w]
      rfl
    refine pure_ (i := 7) (N := some 94) (v := ?_) (a' := ?_) #[true, true, true, true, true, true, true, true, false, false, false, false, false, false, false, false, false, false, false] rfl rfl (any_of rfl (by kernel_rfl)) (fun _ _ _ h => h) (Or.inl ⟨by rfl, ?_⟩) ?_ ?_
    rotate_left
    · intro w'
      go_simp
      with_reducible rfl
    rotate_left
    · simp only [Act.put, List.setIfInBounds_toArray, List.set_cons_zero, List.set_cons_succ, i64_w, i32_w]
      rfl
    refine pure_ (i := 8) (N := some 95) (v := ?_) (a' := ?_) #[true, true, true, true, true, true, true, true, true, false, false, false, false, false, false, false, false, false, false] rfl rfl (any_of rfl (by kernel_rfl)) (fun _ _ _ h => h) (Or.inl ⟨by rfl, ?_⟩) ?_ ?_
    rotate_left
    · intro w'
      go_simp
      with_reducible rfl
    rotate_left
    · simp only [Act.put, List.setIfInBounds_toArray, List.set_cons_zero, List.set_cons_succ, i64_w, i32_w]
      rfl
    refine one_ (i := 9) (N := some 96) #[true, true, true, true, true, true, true, true, true, true, false, false, false, false, false, false, false, false, false] rfl rfl (one_of rfl (by kernel_rfl)) (by decide) (fun K hK => ?_)
    refine goes_ Tryd.func35 (by kernel_rfl) rfl #[.slice A n c] (by rfl) rfl rfl (by (try simp only [List.map_toArray, List.map_cons, List.map_nil]); rfl) ?_
    refine (HRP.out _ HB.out).mono ?_
    rintro e w3 ⟨rfl, hb⟩
    refine ⟨_, rfl, ?_⟩
    refine hK.out _ _ (Kd.C_below HCa.out hb) (fun hHeld => ?_)
    clear hK K
    refine norm_ (a' := ?_) ?_ ?_
    rotate_left
    · show Act.put _ (some 96) _ = _
      simp only [Act.put, List.setIfInBounds_toArray, List.set_cons_zero, List.set_cons_succ, i64_w, i32_w]
      rfl
    replace HCa := Aside0.mk (Kd.C_below HCa.out hb)
    replace HB := Aside0.mk (below_step HB.out hb)
    clear hb
    refine pure_ (i := 10) (N := some 97) (v := ?_) (a' := ?_) #[true, true, true, true, true, true, true, true, true, true, true, false, false, false, false, false, false, false, false] rfl rfl (any_of rfl (by kernel_rfl)) (fun _ _ _ h => h) (Or.inl ⟨by rfl, ?_⟩) ?_ ?_
    rotate_left
    · intro w'
      go_simp
      with_reducible rfl
    rotate_left
    · simp only [Act.put, List.setIfInBounds_toArray, List.set_cons_zero, List.set_cons_succ, i64_w, i32_w]
      rfl
    refine pure_ (i := 11) (N := some 98) (v := ?_) (a' := ?_) #[true, true, true, true, true, true, true, true, true, true, true, true, false, false, false, false, false, false, false] rfl rfl (any_of rfl (by kernel_rfl)) (fun _ _ _ h => h) (Or.inl ⟨by rfl, ?_⟩) ?_ ?_
    rotate_left
    · intro w'
      go_simp
      with_reducible rfl
    rotate_left
    · simp only [Act.put, List.setIfInBounds_toArray, List.set_cons_zero, List.set_cons_succ, i64_w, i32_w]
      rfl
    refine pure_ (i := 12) (N := some 99) (v := ?_) (a' := ?_) #[true, true, true, true, true, true, true, true, true, true, true, true, true, false, false, false, false, false, false] rfl rfl (any_of rfl (by kernel_rfl)) (fun _ _ _ h => h) (Or.inl ⟨by rfl, ?_⟩) ?_ ?_
    rotate_left
    · intro w'
      go_simp
      with_reducible rfl
    rotate_left
    · simp only [Act.put, List.setIfInBounds_toArray, List.set_cons_zero, List.set_cons_succ, i64_w, i32_w]
      rfl
    refine pure_ (i := 13) (N := some 100) (v := ?_) (a' := ?_) #[true, true, true, true, true, true, true, true, true, true, true, true, true, true, false, false, false, false, false] rfl rfl (any_of rfl (by kernel_rfl)) (fun _ _ _ h => h) (Or.inl ⟨by rfl, ?_⟩) ?_ ?_
    rotate_left
    · intro w'
      go_simp
      with_reducible rfl
    rotate_left
    · simp only [Act.put, List.setIfInBounds_toArray, List.set_cons_zero, List.set_cons_succ, i64_w, i32_w]
      rfl
    refine pure_ (i := 14) (N := some 101) (v := ?_) (a' := ?_) #[true, true, true, true, true, true, true, true, true, true, true, true, true, true, true, false, false, false, false] rfl rfl (any_of rfl (by kernel_rfl)) (fun _ _ _ h => h) (Or.inl ⟨by rfl, ?_⟩) ?_ ?_
    rotate_left
    · intro w'
      go_simp
      with_reducible rfl
    rotate_left
    · simp only [Act.put, List.setIfInBounds_toArray, List.set_cons_zero, List.set_cons_succ, i64_w, i32_w]
      rfl
    refine one_ (i := 15) (N := some 102) #[true, true, true, true, true, true, true, true, true, true, true, true, true, true, true, true, false, false, false] rfl rfl (one_of rfl (by kernel_rfl)) (by decide) (fun K hK => ?_)
    refine goes_ Tryd.func36 (by kernel_rfl) rfl #[.slice A n c] (by rfl) rfl rfl (by (try simp only [List.map_toArray, List.map_cons, List.map_nil]); rfl) ?_
    refine (HRT.out _ HB.out).mono ?_
    rintro e w4 ⟨rfl, hb⟩
    refine ⟨_, rfl, ?_⟩
    refine hK.out _ _ (Kd.C_below HCa.out hb) (fun hHeld => ?_)
    clear hK K
    refine norm_ (a' := ?_) ?_ ?_
    rotate_left
    · show Act.put _ (some 102) _ = _
      simp only [Act.put, List.setIfInBounds_toArray, List.set_cons_zero, List.set_cons_succ, i64_w, i32_w]
      rfl
    replace HB := Aside0.mk (below_step HB.out hb)
    clear hb
    refine pure_ (i := 16) (N := some 103) (v := ?_) (a' := ?_) #[true, true, true, true, true, true, true, true, true, true, true, true, true, true, true, true, true, false, false] rfl rfl (any_of rfl (by kernel_rfl)) (fun _ _ _ h => h) (Or.inl ⟨by rfl, ?_⟩) ?_ ?_
    rotate_left
    · intro w'
      go_simp
      with_reducible rfl
    rotate_left
    · simp only [Act.put, List.setIfInBounds_toArray, List.set_cons_zero, List.set_cons_succ, i64_w, i32_w]
      rfl
    refine pure_ (i := 17) (N := some 104) (v := ?_) (a' := ?_) #[true, true, true, true, true, true, true, true, true, true, true, true, true, true, true, true, true, true, false] rfl rfl (any_of rfl (by kernel_rfl)) (fun _ _ _ h => h) (Or.inl ⟨by rfl, ?_⟩) ?_ ?_
    rotate_left
    · intro w'
      go_simp
      with_reducible rfl
    rotate_left
    · simp only [Act.put, List.setIfInBounds_toArray, List.set_cons_zero, List.set_cons_succ, i64_w, i32_w]
      rfl
    refine pure_ (i := 18) (N := some 4) (v := ?_) (a' := ?_) #[true, true, true, true, true, true, true, true, true, true, true, true, true, true, true, true, true, true, true] rfl rfl (any_of rfl (by kernel_rfl)) (fun _ _ _ h => h) (Or.inl ⟨by rfl, ?_⟩) ?_ ?_
    rotate_left
    · intro w'
      go_simp
      with_reducible rfl
    rotate_left
    · simp only [Act.put, List.setIfInBounds_toArray, List.set_cons_zero, List.set_cons_succ, i64_w, i32_w]
      rfl
    refine done_ (done_of rfl (by kernel_rfl)) ?_
    have hfin := HB.out
    clear hHeld
    go_wp2_with fail
    go_ret
    exact ⟨rfl, hfin⟩
  · rw [if_neg hk0] at hpr hst
    simp only [if_neg hk0] at hwr
    have HWR := hwr
    rw [hpr] at HPR
    rw [hst] at HTX
    obtain ⟨k, hk⟩ : ∃ k, sck l = k := ⟨_, rfl⟩
    rw [hk] at HCK HRC HPR HWR HTX hk0
    have kk : (k != 0) = true := bne_iff_ne.mpr hk0
    clear HRW HRP HRT hwr hpr hst hk hk0
    go_enter Tryd.func8, Tryd.ntmps8
    go_wp2_with fail
    refine (HAL.out _ (Below.refl _ _)).mono ?_
    rintro e u1 ⟨rfl, hb⟩
    have HB := Aside0.mk hb
    clear hb
    go_wp2_with fail
    refine (HGR.out _ HB.out).mono ?_
    rintro e u2 ⟨rfl, hb⟩
    replace HB := Aside0.mk (below_step HB.out hb)
    clear hb
    cases g
    case true =>
      go_wp2_with fail
      refine (HAL.out _ HB.out).mono ?_
      rintro e wq ⟨rfl, hq⟩
      have hfin := below_step HB.out hq
      clear hq
      go_wp2_with fail
      go_ret
      exact ⟨rfl, hfin⟩
    go_wp2_with fail
    refine (HGR'.out _ HB.out).mono ?_
    rintro e u3 ⟨rfl, hb⟩
    replace HB := Aside0.mk (below_step HB.out hb)
    clear hb
    cases g'
    case true =>
      go_wp2_with fail
      refine (HAL.out _ HB.out).mono ?_
      rintro e wq ⟨rfl, hq⟩
      have hfin := below_step HB.out hq
      clear hq
      go_wp2_with fail
      go_ret
      exact ⟨rfl, hfin⟩
    go_wp2_with fail
    refine (HWR.out _ HB.out).mono ?_
    rintro e u4 ⟨v, rfl, hv, hb⟩
    obtain ⟨A1, c1, rfl, -, hC⟩ := Kd.R_reads hv
    have HCa := Aside0.mk hC
    replace HB := Aside0.mk (below_step HB.out hb)
    clear hv hb hC
    go_wp2_with fail
    refine (HPR.out _ HB.out).mono ?_
    rintro e u5 ⟨rfl, hb⟩
    replace HCa := Aside0.mk (Kd.C_below HCa.out hb)
    replace HB := Aside0.mk (below_step HB.out hb)
    clear hb
    go_wp2_with fail
    refine (HTX.out _ HB.out).mono ?_
    rintro e u6 ⟨rfl, hb⟩
    replace HCa := Aside0.mk (Kd.C_below HCa.out hb)
    replace HB := Aside0.mk (below_step HB.out hb)
    clear hb
    go_wp2_with fail
    refine (HRC.out _ HB.out).mono ?_
    rintro e u7 ⟨rfl, hb⟩
    replace HCa := Aside0.mk (Kd.C_below HCa.out hb)
    replace HB := Aside0.mk (below_step HB.out hb)
    clear hb
    go_wp2_with fail
    refine (HCK.out _ HB.out).mono ?_
    rintro e u8 ⟨rfl, hb⟩
    replace HCa := Aside0.mk (Kd.C_below HCa.out hb)
    replace HB := Aside0.mk (below_step HB.out hb)
    clear hb
    go_wp2_with fail
    refine (HSM.out _ HB.out).mono ?_
    rintro e u9 ⟨rfl, hb⟩
    replace HCa := Aside0.mk (Kd.C_below HCa.out hb)
    replace HB := Aside0.mk (below_step HB.out hb)
    clear hb
    go_wp2_with fail
    refine (HSR.out _ HB.out).mono ?_
    rintro e u10 ⟨rfl, hb⟩
    replace HCa := Aside0.mk (Kd.C_below HCa.out hb)
    replace HB := Aside0.mk (below_step HB.out hb)
    clear hb
    go_wp2_with fail
    refine (HSS.out _ HB.out).mono ?_
    rintro e u11 ⟨rfl, hb⟩
    replace HCa := Aside0.mk (Kd.C_below HCa.out hb)
    replace HB := Aside0.mk (below_step HB.out hb)
    clear hb
    have hfin := HB.out
    go_wp2_with fail
    go_ret
    exact ⟨rfl, hfin⟩
end Go.Proofs.YtnmjelcicbfjdaaDoor.Sc
