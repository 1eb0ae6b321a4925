import Derived.Test.YtciolchdihlgfaaDoorScV
/-! SchemaBack: the call. -/
namespace Go.Proofs.YtciolchdihlgfaaDoor.Sc
open Go.RowKit Go.Proofs.YtciolchdihlgfaaDoorW.PrintWords Go.Proofs.YtciolchdihlgfaaDoorW.PrintLast Go.Proofs.YtciolchdihlgfaaDoorW.PrintMore Go.Proofs.YtciolchdihlgfaaDoor.Wire Go.Proofs.YtciolchdihlgfaaDoor.PSc Go.Proofs.YtciolchdihlgfaaDoor.Co Go.Proofs.YtciolchdihlgfaaDoor.Ce Go.Proofs.YtciolchdihlgfaaDoor.Rd
set_option linter.unusedVariables false
set_option linter.unusedSimpArgs false
set_option maxRecDepth 100000
theorem rd_of {l : List Int} {s : List Col} {a : Nat} {e : Int} (h : rtk l = (s, a, e)) (he : e = 0) (ha : a = l.length) : rdCols l = s ∧ rdErr l = 0 := by
  have h1 : rdErr l = 0 := by unfold rdErr; rw [h]; dsimp only; rw [if_pos he, if_neg (by omega)]
  exact ⟨by unfold rdCols; rw [if_pos h1, h], h1⟩
theorem wS_max {s : List Col} (h : sck s = 0) : (wS s).length ≤ 300 := by
  obtain ⟨h1, h2⟩ := sck_small h
  have h3 := wcs_len (l := s) (fun c hc => (h2 c hc).1)
  unfold wS
  rw [List.length_append, uv_small (by omega)]
  simp only [List.length_singleton]
  omega
set_option maxHeartbeats 32000000 in
theorem backs_calls {A : Option Addr} {c : Nat} {l : List Col} (x : Int) (w : World) (hN : NamesW w) (hM : MaxW w) (hr : Kd.C k53 w A l.length l) (hc : l.length ≤ c) (hs : ∀ i, (rd_T53 l i).f0.size ≤ 9223372036854775807) (hx : 0 ≤ x ∧ x < 256) :
    Calls Tryd.prog 5 #[.slice A l.length c, .int .u8 x] w fun e w' => e = .returned (.bool true) ∧ Below w.heap.size w w' := by
  have HAL := Aside0.mk (fun (W : World) (hb : Below w.heap.size w W) => alive_calls W (hN.below hb) (hM.below hb))
  obtain ⟨g, hg⟩ := great_calls (c := c) w hr hc
  have HGR := Aside0.mk hg
  have HWR := Aside0.mk (fun (W : World) (hb : Below w.heap.size w W) => swrite_calls (c := c) W (hN.below hb) (Kd.C_below hr hb) hc hs)
  have HTX := Aside0.mk (fun (W : World) (hb : Below w.heap.size w W) => stext_calls (c := c) W (hN.below hb) (Kd.C_below hr hb) hc hs)
  have HRD := Aside0.mk (fun (q : List Int) (hq : Bytes q) (hql : q.length ≤ 140737488351232) (A1 : Option Addr) (c1 : Nat) (W : World) (hb' : Below w.heap.size w W) (hC : (Kd.int .u8).C W A1 q.length q) (hc1 : q.length ≤ c1) => sread_calls (c := c1) W (hN.below hb') hC hc1 hq hql)
  have HPA := Aside0.mk (fun (t : ByteArray) (ht : t.size ≤ 1000000) (W : World) (hb' : Below w.heap.size w W) => parse_calls t ht W (hN.below hb') (hM.below hb'))
  have HSM := Aside0.mk (fun (A1 : Option Addr) (c1 : Nat) (W : World) (hb : Below w.heap.size w W) (h1 : Kd.C k53 W A1 l.length l) => by
    have := same_calls (c := c) (c' := c1) W (Kd.C_below hr hb) h1
    rw [eqs_self] at this
    exact this)
  obtain ⟨n, hn⟩ : ∃ n, l.length = n := ⟨_, rfl⟩
  have HNN := Aside0.mk hn
  rw [hn] at HGR HWR HTX HSM ⊢
  have hst : stxt l = if sck l = 0 then txt l else ⟨#[]⟩ := rfl
  have HXX := Aside0.mk hx
  have hbytes : Bytes (wS l ++ [x]) := wS_bytes.app (fun y hy => by rw [List.mem_singleton.1 hy]; exact hx)
  clear hN hM hr hc hs hg hn hx
  by_cases hk0 : sck l ≠ 0
  · obtain ⟨k, hk⟩ : ∃ k, sck l = k := ⟨_, rfl⟩
    rw [hk] at HWR HTX hk0
    have t1 : (k != 0) = true := bne_iff_ne.mpr hk0
    have t2 : (k == k) = true := beq_iff_eq.2 rfl
    clear hk hk0 hst hbytes HRD HPA HSM
    go_enter Tryd.func5, Tryd.ntmps5
    go_wp2_with fail
    refine (HAL.out _ (Below.refl _ _)).mono ?_
    rintro e u1 ⟨rfl, hb⟩
    have HB := Aside0.mk hb
    clear hb
    go_wp2_with fail
    refine (HGR.out _ HB.out).mono ?_
    rintro e u2 ⟨rfl, hb⟩
    replace HB := Aside0.mk (below_step HB.out hb)
    clear hb
    cases g
    case true =>
      go_wp2_with fail
      refine (HAL.out _ HB.out).mono ?_
      rintro e wq ⟨rfl, hq⟩
      have hfin := below_step HB.out hq
      clear hq
      go_wp2_with fail
      go_ret
      exact ⟨rfl, hfin⟩
    go_wp2_with fail
    refine (HWR.out _ HB.out).mono ?_
    rintro e u3 ⟨v, rfl, -, hb⟩
    replace HB := Aside0.mk (below_step HB.out hb)
    clear hb
    go_wp2_with fail
    refine (HTX.out _ HB.out).mono ?_
    rintro e u4 ⟨rfl, hb⟩
    have hfin := below_step HB.out hb
    clear hb
    go_wp2_with fail
    go_ret
    exact ⟨by first | rfl | (simp; done), hfin⟩
  have hk := Decidable.not_not.1 hk0
  rw [if_pos hk] at hst
  rw [hst, hk] at HTX
  rw [hk] at HWR
  simp only [if_true] at HWR
  have HSH := Aside0.mk (fun i hi => rtk_short (s := l) hk (i := i) hi)
  have hrd := rd_of (rtk_at hk []) rfl (by rw [List.append_nil])
  rw [List.append_nil] at hrd
  have ha0 : (rtk (wS l)).2.1 = (wS l).length := by have := rtk_at hk []; rw [List.append_nil] at this; rw [this]
  have hr7 : rtk (wS l ++ [x]) = (l, (wS l).length, 0) := rtk_at hk [x]
  have h7 : rdErr (wS l ++ [x]) = 7 := by
    unfold rdErr
    rw [hr7]
    dsimp only
    rw [if_pos rfl, if_pos (by simp)]
  have hmax := wS_max hk
  have hbw : Bytes (wS l) := wS_bytes
  have HPT := Aside0.mk (prs_txt hk)
  have htl := txL_len l.length l rfl (fun c hc => ((sck_small hk).2 c hc).1)
  have htz : (txt l).size ≤ 1000000 := by
    have e : (txt l).size = (txL l).length := by show (txL l).toArray.size = _; exact List.size_toArray ..
    have := (sck_small hk).1.2
    omega
  have HP1 := Aside0.mk (HPA.out (txt l) htz)
  rw [HPT.out] at HP1
  obtain ⟨tx, htx⟩ : ∃ z, txt l = z := ⟨_, rfl⟩
  rw [htx] at HTX HP1
  obtain ⟨L, hL⟩ : ∃ L, wS l = L := ⟨_, rfl⟩
  rw [hL] at HWR HSH hrd ha0 hr7 h7 hmax hbytes hbw
  have HR1 := Aside0.mk (HRD.out L hbw (by omega))
  rw [hrd.1, hrd.2, ha0] at HR1
  have HR2 := Aside0.mk (HRD.out (L ++ [x]) hbytes (by rw [List.length_append]; simp only [List.length_singleton]; omega))
  rw [h7, hr7] at HR2
  have HTK := Aside0.mk (fun (i : Nat) (hi : i < L.length) => show (rdErr (L.take i) = 5 ∧ rdCols (L.take i) = [] ∧ (rtk (L.take i)).2.1 ≤ i) from by
    have h := HSH.out i hi
    have e5 : rdErr (L.take i) = 5 := by unfold rdErr; rw [h, if_neg (by decide)]
    refine ⟨e5, rdErr_no (by rw [e5]; decide), ?_⟩
    have := rtk_le (hbw.take i)
    rw [List.length_take] at this
    omega)
  have HBW := Aside0.mk hbw
  obtain ⟨m, hm⟩ : ∃ m, L.length = m := ⟨_, rfl⟩
  have HM := Aside0.mk hm
  have HMX := Aside0.mk (show m ≤ 300 by omega)
  have HLX := Aside0.mk (show (L ++ [x]).length = m + 1 by rw [List.length_append, hm]; rfl)
  rw [hm] at HR1 HR2 HTK
  clear hk0 hk hst hbytes hrd ha0 hr7 h7 hmax hbw htl htz htx hL hm HSH HPT HPA
  go_enter Tryd.func5, Tryd.ntmps5
  go_wp2_with fail
  refine (HAL.out _ (Below.refl _ _)).mono ?_
  rintro e u1 ⟨rfl, hb⟩
  have HB := Aside0.mk hb
  clear hb
  go_wp2_with fail
  refine (HGR.out _ HB.out).mono ?_
  rintro e u2 ⟨rfl, hb⟩
  replace HB := Aside0.mk (below_step HB.out hb)
  clear hb
  cases g
  case true =>
    go_wp2_with fail
    refine (HAL.out _ HB.out).mono ?_
    rintro e wq ⟨rfl, hq⟩
    have hfin := below_step HB.out hq
    clear hq
    go_wp2_with fail
    go_ret
    exact ⟨rfl, hfin⟩
  clear HAL HGR
  go_wp2_with fail
  refine (HWR.out _ HB.out).mono ?_
  rintro e u3 ⟨v, rfl, hv, hb⟩
  obtain ⟨A5, c5, rfl, hc5, hC5⟩ := Kd.R_reads hv
  rw [HM.out] at hc5 hC5 ⊢
  have HC5 := Aside0.mk hC5
  have HL5 := Aside0.mk hc5
  replace HB := Aside0.mk (below_step HB.out hb)
  clear hv hb hc5 hC5 HWR
  go_wp2_with fail
  refine (HTX.out _ HB.out).mono ?_
  rintro e u4 ⟨rfl, hb⟩
  replace HC5 := Aside0.mk (Kd.C_below HC5.out hb)
  replace HB := Aside0.mk (below_step HB.out hb)
  clear hb HTX
  go_wp2_with fail
  refine (HR1.out A5 c5 _ HB.out HC5.out HL5.out).mono ?_
  rintro e u5 ⟨v, rfl, hv, hb⟩
  obtain ⟨A9, c9, rfl, hc9, hC9⟩ := Kd.R_reads hv
  rw [HNN.out] at hc9 hC9 ⊢
  have HC9 := Aside0.mk hC9
  replace HC5 := Aside0.mk (Kd.C_below HC5.out hb)
  replace HB := Aside0.mk (below_step HB.out hb)
  clear hv hb hc9 hC9 HR1
  go_wp2_with fail
  refine (HP1.out _ HB.out).mono ?_
  rintro e u6 ⟨v, rfl, hv, hb⟩
  obtain ⟨A12, c12, rfl, hc12, hC12⟩ := Kd.R_reads hv
  rw [HNN.out] at hc12 hC12 ⊢
  have HC12 := Aside0.mk hC12
  replace HC5 := Aside0.mk (Kd.C_below HC5.out hb)
  replace HC9 := Aside0.mk (Kd.C_below HC9.out hb)
  replace HB := Aside0.mk (below_step HB.out hb)
  clear hv hb hc12 hC12 HP1
  go_wp2_with fail
  refine (HSM.out A9 c9 _ HB.out HC9.out).mono ?_
  rintro e u7 ⟨rfl, hb⟩
  replace HC5 := Aside0.mk (Kd.C_below HC5.out hb)
  replace HC12 := Aside0.mk (Kd.C_below HC12.out hb)
  replace HB := Aside0.mk (below_step HB.out hb)
  clear hb HC9
  go_wp2_with fail
  refine (HSM.out A12 c12 _ HB.out HC12.out).mono ?_
  rintro e u8 ⟨rfl, hb⟩
  replace HC5 := Aside0.mk (Kd.C_below HC5.out hb)
  replace HB := Aside0.mk (below_step HB.out hb)
  clear hb HC12 HSM
  go_wp2_with fail
  go_loopw [14, 15, 16, 17, 84] (fun _ _ _ _ i wr => ∃ j : Nat, j ≤ m ∧ i = .int .i64 (j : Int) ∧ Aside0 (Below w.heap.size w wr) ∧ Aside0 ((Kd.int .u8).C wr A5 m L)) (fun _ _ _ _ i _ => m - (intOf i).toNat)
  case atStart => exact ⟨0, by omega, rfl, ⟨HB.out⟩, ⟨HC5.out⟩⟩
  case round =>
    clear HB HC5
    obtain ⟨j, hj, rfl, HB, HC5⟩ := hrel
    by_cases hlt : j < m
    · have u1 : decide ((j : Int) < (m : Int)) = true := decide_eq_true (by omega)
      have u2 : decide (j < m) = true := decide_eq_true hlt
      have hmax : (j : Int) + 1 ≤ 9223372036854775807 := by have := HMX.out; omega
      have HLT := Aside0.mk hlt
      obtain ⟨e5, e0, ea⟩ := HTK.out j hlt
      have hq := HRD.out (L.take j) (HBW.out.take j) (by rw [List.length_take]; have := HM.out; have := HMX.out; omega) A5 c5 wr HB.out (by have h := HC5.out; rw [← HM.out] at h; exact Kd.C_take h (by have := HM.out; omega)) (by rw [List.length_take]; have := HL5.out; have := HM.out; omega)
      rw [e5, e0, show (L.take j).length = j from by rw [List.length_take]; have := HM.out; omega] at hq
      obtain ⟨a, ha⟩ : ∃ a, (rtk (L.take j)).2.1 = a := ⟨_, rfl⟩
      rw [ha] at hq ea
      have HQ := Aside0.mk hq
      have v1 : decide ((j : Int) < (a : Int)) = false := decide_eq_false (by omega)
      have v2 : decide (j < a) = false := decide_eq_false (by omega)
      have z0 : (0 ≤ (j : Int)) = True := eq_true (by omega)
      have z1 : ((j : Int) ≤ (c5 : Int)) = True := eq_true (by have := HL5.out; omega)
      have z2 : (j ≤ c5) = True := eq_true (by have := HL5.out; omega)
      clear hj hlt e5 e0 ea hq ha
      go_wp2_with fail
      refine HQ.out.mono ?_
      rintro e u9 ⟨v, rfl, hv, hb⟩
      obtain ⟨A15, c15, rfl⟩ := Kd.R_slice hv
      have HB9 := Aside0.mk (below_step HB.out hb)
      have HC9 := Aside0.mk (Kd.C_below HC5.out hb)
      clear hv hb HQ
      go_wp2_with fail
      go_roundw
      case rel => exact ⟨j + 1, HLT.out, by go_num, ⟨HB9.out⟩, ⟨HC9.out⟩⟩
      case measure => have := HLT.out; simp [intOf]; omega
    · have u1 : decide ((j : Int) < (m : Int)) = false := decide_eq_false (by omega)
      have u2 : decide (j < m) = false := decide_eq_false hlt
      clear hj hlt HTK
      go_wp2_with (first
        | ((with_reducible refine gate_dst (N := 109) rfl ?_); refine Kd.R_lit (Kd.int .u8) 5 ?hg (N := 109) ?hd (w0 := w) (base := w.heap.size) (xs := ([] : List Int)) (inner := []) (ok := fun _ => True) (okp := fun _ => True) ?hr ?hp (fun _ h => h) trivial HB.out HB.out.size (by simp) ?_; (case hd => rfl); (case hg => rfl); (case hr => first | (go_simp; done) | (go_simp; rfl)); (case hp => exact Reps.none _ _); intro v109 w2 ho hb hg hnew; have HO2 := Aside0.mk ho; have HB2 := Aside0.mk hb; have HCb := Aside0.mk (Kd.C_below HC5.out ⟨hg.os, hg.tape, hg.output, hg.size, fun k hk => hg.block k hk (by simp)⟩); clear ho hb hg hnew)
        | ((with_reducible refine gate_dst (N := 111) rfl ?_); refine Kd.R_append_rows (Kd.int .u8) (w0 := w) w.heap.size rfl (.tmp 109) (.tmp 110) 22 5 (.int .u8 0) 1 rfl Tryd.underlying22 infoB rfl (by decide) (by decide) _ ([] : List Int) L A5 m c5 (fun _ => True) (fun _ => False) rfl rfl HO2.out HCb.out (fun _ _ h => h) (fun _ h => h.elim) (fun _ _ => trivial) HB2.out HB2.out.size (by have := HMX.out; simp only [List.length_nil]; omega) ?_; intro v111 w3 ho hb hg hat; rw [List.nil_append] at ho; have HO3 := Aside0.mk ho; have HB3 := Aside0.mk hb; clear ho hb hg hat)
        | ((with_reducible refine gate_dst (N := 114) rfl ?_); refine Kd.R_append (Kd.int .u8) (w0 := w) w.heap.size rfl (.tmp 111) (.tmp 113) 22 5 (.int .u8 0) 1 rfl Tryd.underlying22 infoB rfl (by decide) (by decide) _ L x [.int .u8 x] (fun _ => True) (fun _ => False) rfl rfl (show Kd.M (Kd.int .u8) _ _ _ x [.int .u8 x] from rfl) (fun _ h => h.elim) (fun _ _ => trivial) HO3.out HB3.out HB3.out.size (by have := HM.out; have := HMX.out; omega) ?_; intro v114 w4 ho hb hg hat; obtain ⟨A114, c114, e114, hc114, hC114⟩ := Kd.R_reads ho; rw [HLX.out] at e114 hc114; subst e114; have HO4 := Aside0.mk hC114; have HL4 := Aside0.mk hc114; have HB4 := Aside0.mk hb; clear ho hb hg hat hc114 hC114))
      have hq := HR2.out A114 c114 _ HB4.out HO4.out (by rw [HLX.out]; exact HL4.out)
      rw [HLX.out] at hq
      refine hq.mono ?_
      rintro e u9 ⟨v, rfl, -, hb⟩
      have hfin := below_step HB4.out hb
      clear hb hq HR2 HO4
      go_wp2_with fail
      go_ret
      exact ⟨by first | rfl | (simp; done), hfin⟩
end Go.Proofs.YtciolchdihlgfaaDoor.Sc
