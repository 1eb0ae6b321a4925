import Derived.Test.YtciolchdihlgfaaDoorScRT
/-! SchemaOne: the call. -/
namespace Go.Proofs.YtciolchdihlgfaaDoor.Sc
open Go.RowKit Go.Proofs.YtciolchdihlgfaaDoorW.PrintWords Go.Proofs.YtciolchdihlgfaaDoorW.PrintLast Go.Proofs.YtciolchdihlgfaaDoorW.PrintMore Go.Proofs.YtciolchdihlgfaaDoor.Wire Go.Proofs.YtciolchdihlgfaaDoor.PSc Go.Proofs.YtciolchdihlgfaaDoor.Co Go.Proofs.YtciolchdihlgfaaDoor.Ce Go.Proofs.YtciolchdihlgfaaDoor.Rd
set_option linter.unusedVariables false
set_option linter.unusedSimpArgs false
set_option maxRecDepth 100000
theorem rdErr_0 {l : List Int} (hb : Bytes l) (h0 : rdErr l = 0) : sck (rdCols l) = 0 ∧ wS (rdCols l) = l ∧ (rtk l).2.1 = l.length := by
  have h1 : (rtk l).2.2 = 0 ∧ (rtk l).2.1 = l.length := by
    have hle := rtk_le hb
    have h0' := h0
    unfold rdErr at h0'
    split at h0'
    · rename_i h2
      split at h0'
      · omega
      · exact ⟨h2, by omega⟩
    · rename_i h2; exact absurd h0' h2
  unfold rdCols
  rw [if_pos h0]
  exact ⟨(rtk_ok hb h1.1 h1.2).1, (rtk_ok hb h1.1 h1.2).2, h1.2⟩
theorem rdErr_no {l : List Int} (h0 : rdErr l ≠ 0) : rdCols l = [] := by unfold rdCols; rw [if_neg h0]
set_option maxHeartbeats 32000000 in
theorem ones_calls {A : Option Addr} {c : Nat} {l : List Int} (t : ByteArray) (w : World) (hN : NamesW w) (hM : MaxW w) (hr : (Kd.int .u8).C w A l.length l) (hc : l.length ≤ c) (hb : Bytes l) (hl : l.length ≤ 140737488351232) :
    Calls Tryd.prog 4 #[.slice A l.length c, .string t] w fun e w' => e = .returned (.bool true) ∧ Below w.heap.size w w' := by
  have HAL := Aside0.mk (fun (W : World) (hb : Below w.heap.size w W) => alive_calls W (hN.below hb) (hM.below hb))
  have HRD := Aside0.mk (fun (W : World) (hb' : Below w.heap.size w W) => sread_calls (c := c) W (hN.below hb') (Kd.C_below hr hb') hc hb hl)
  have HPA := Aside0.mk (fun (ht : t.size ≤ 1000000) (W : World) (hb' : Below w.heap.size w W) => parse_calls t ht W (hN.below hb') (hM.below hb'))
  have HWR := Aside0.mk (fun (m : List Col) (hm : sck m = 0) (A1 : Option Addr) (c1 : Nat) (W : World) (hb' : Below w.heap.size w W) (h1 : Kd.C k53 W A1 m.length m) (g1 : m.length ≤ c1) => by
    have := swrite_calls (c := c1) W (hN.below hb') h1 g1 (fun i => Nat.le_trans (rd_size (B := 32) (fun c hc => ((sck_small hm).2 c hc).1) i) (by decide))
    rw [hm, if_pos rfl] at this
    exact this)
  have HCK := Aside0.mk (fun (m : List Col) (hm : sck m = 0) (A1 : Option Addr) (c1 : Nat) (W : World) (hb' : Below w.heap.size w W) (h1 : Kd.C k53 W A1 m.length m) (g1 : m.length ≤ c1) => by
    have := scheck_calls (c := c1) W (hN.below hb') h1 g1 (fun i => Nat.le_trans (rd_size (B := 32) (fun c hc => ((sck_small hm).2 c hc).1) i) (by decide))
    rw [hm] at this
    exact this)
  have HTX := Aside0.mk (fun (m : List Col) (hm : sck m = 0) (A1 : Option Addr) (c1 : Nat) (W : World) (hb' : Below w.heap.size w W) (h1 : Kd.C k53 W A1 m.length m) (g1 : m.length ≤ c1) => by
    have := stext_calls (c := c1) W (hN.below hb') h1 g1 (fun i => Nat.le_trans (rd_size (B := 32) (fun c hc => ((sck_small hm).2 c hc).1) i) (by decide))
    rw [hm, show stxt m = txt m from if_pos hm] at this
    exact this)
  have HRB := Aside0.mk (fun (W : World) (hb' : Below w.heap.size w W) => Kd.C_below hr hb')
  have HLE := Aside0.mk (rtk_le hb)
  have HE0 := Aside0.mk (fun h => rdErr_0 hb h)
  have HE1 := Aside0.mk (fun h => rdErr_no (l := l) h)
  have HF0 := Aside0.mk (fun h => txt_prs (t := t) h)
  have HF1 := Aside0.mk (fun h => prs_no (t := t) h)
  obtain ⟨n, hn⟩ : ∃ n, l.length = n := ⟨_, rfl⟩
  rw [hn] at HRD HRB HLE HE0 ⊢
  have HNN := Aside0.mk hn
  obtain ⟨C, hC⟩ : ∃ C, rdCols l = C := ⟨_, rfl⟩
  obtain ⟨E, hE⟩ : ∃ E, rdErr l = E := ⟨_, rfl⟩
  obtain ⟨a, ha⟩ : ∃ a, (rtk l).2.1 = a := ⟨_, rfl⟩
  obtain ⟨D, hD⟩ : ∃ D, (prs t).1 = D := ⟨_, rfl⟩
  obtain ⟨F, hF⟩ : ∃ F, (prs t).2 = F := ⟨_, rfl⟩
  rw [hC, hE, ha] at HRD HE0
  rw [hC, hE] at HE1
  rw [ha] at HLE
  rw [hD, hF] at HPA HF0 HF1
  clear hN hM hr hc hb hl hn hC hE ha hD hF
  go_enter Tryd.func4, Tryd.ntmps4
  go_wp2_with fail
  refine (HAL.out _ (Below.refl _ _)).mono ?_
  rintro e w1 ⟨rfl, hb⟩
  have HB := Aside0.mk hb
  clear hb
  by_cases h1 : 2000 < n
  · have u1 : decide ((2000 : Int) < (n : Int)) = true := decide_eq_true (by omega)
    have u2 : decide (2000 < n) = true := decide_eq_true h1
    clear h1
    go_wp2_with fail
    refine (HAL.out _ HB.out).mono ?_
    rintro e wq ⟨rfl, hq⟩
    have hfin := below_step HB.out hq
    clear hq
    go_wp2_with fail
    go_ret
    exact ⟨rfl, hfin⟩
  have u1 : decide ((2000 : Int) < (n : Int)) = false := decide_eq_false (by omega)
  have u2 : decide (2000 < n) = false := decide_eq_false h1
  by_cases h2 : 2000 < t.size
  · have u3 : decide ((2000 : Int) < (t.size : Int)) = true := decide_eq_true (by omega)
    have u4 : decide (2000 < t.size) = true := decide_eq_true h2
    clear h1 h2
    go_wp2_with fail
    refine (HAL.out _ HB.out).mono ?_
    rintro e wq ⟨rfl, hq⟩
    have hfin := below_step HB.out hq
    clear hq
    go_wp2_with fail
    go_ret
    exact ⟨rfl, hfin⟩
  have u3 : decide ((2000 : Int) < (t.size : Int)) = false := decide_eq_false (by omega)
  have u4 : decide (2000 < t.size) = false := decide_eq_false h2
  have HPA1 := Aside0.mk (HPA.out (by omega))
  clear h1 h2 HPA
  go_wp2_with fail
  refine (HRD.out _ HB.out).mono ?_
  rintro e w2 ⟨v2, rfl, hv, hb⟩
  obtain ⟨A2, c2, rfl, hc2, hC2⟩ := Kd.R_reads hv
  have HC2 := Aside0.mk hC2
  have HL2 := Aside0.mk hc2
  replace HB := Aside0.mk (below_step HB.out hb)
  clear hv hb hc2 hC2 HRD
  by_cases he : E = 0
  · obtain ⟨k1, k2, k3⟩ := HE0.out he
    subst he
    subst k3
    have HWQ := Aside0.mk (HWR.out C k1 A2 c2 _ HB.out HC2.out HL2.out)
    rw [k2] at HWQ
    have HCQ := Aside0.mk (fun (W : World) (hb : Below w.heap.size w W) (h1 : Kd.C k53 W A2 C.length C) => HCK.out C k1 A2 c2 W hb h1 HL2.out)
    clear k1 k2 HE0 HE1 HWR HCK HLE
    go_wp2_with fail
    refine HWQ.out.mono ?_
    rintro e w3 ⟨v3, rfl, hv, hb⟩
    obtain ⟨A3, c3, rfl, hc3, hC3⟩ := Kd.R_reads hv
    replace HC2 := Aside0.mk (Kd.C_below HC2.out hb)
    replace HB := Aside0.mk (below_step HB.out hb)
    have kc := Kd.C_string (P := Tryd.prog) (A := A3) (c := c3) Tryd.underlying22 Tryd.underlying5 Tryd.underlying9 hC3
    have kb := Kd.C_string (P := Tryd.prog) (A := A) (c := c) Tryd.underlying22 Tryd.underlying5 Tryd.underlying9 (HRB.out _ HB.out)
    obtain ⟨sl, hsl⟩ : ∃ z, strOfNums l = z := ⟨_, rfl⟩
    rw [hsl] at kc kb
    rw [HNN.out] at kc ⊢
    have nn : (sl.toList != sl.toList) = false := by simp
    clear hv hb hc3 hC3 hsl HWQ HRB
    go_wp2_with fail
    refine (HCQ.out _ HB.out HC2.out).mono ?_
    rintro e w4 ⟨rfl, hb⟩
    replace HB := Aside0.mk (below_step HB.out hb)
    clear hb kc kb nn HCQ HC2 HL2
    go_wp2_with fail
    refine (HPA1.out _ HB.out).mono ?_
    rintro e w5 ⟨v5, rfl, hv, hb⟩
    obtain ⟨A5, c5, rfl, hc5, hC5⟩ := Kd.R_reads hv
    have HC5 := Aside0.mk hC5
    have HL5 := Aside0.mk hc5
    replace HB := Aside0.mk (below_step HB.out hb)
    clear hv hb hc5 hC5 HPA1
    by_cases hf : F = 0
    · obtain ⟨k1, k2⟩ := HF0.out hf
      subst hf
      have HT := HTX.out D k2 A5 c5 _ HB.out HC5.out HL5.out
      rw [k1] at HT
      have HT5 := Aside0.mk HT
      clear k1 k2 HT HF0 HF1 HC5 HL5 HTX
      go_wp2_with fail
      refine HT5.out.mono ?_
      rintro e w6 ⟨rfl, hb⟩
      have hfin := below_step HB.out hb
      clear hb
      go_wp2_with fail
      go_ret
      exact ⟨by first | rfl | (simp; done), hfin⟩
    · have t1 : (F != 0) = true := bne_iff_ne.mpr hf
      obtain rfl := HF1.out hf
      have hfin := HB.out
      clear hf HF0 HF1 HC5 HL5
      go_wp2_with fail
      go_ret
      exact ⟨rfl, hfin⟩
  · have t0 : (E == 0) = false := beq_eq_false_iff_ne.2 he
    obtain rfl := HE1.out he
    have t2 : decide ((n : Int) < (a : Int)) = false := decide_eq_false (by have := HLE.out; omega)
    have t3 : decide (n < a) = false := decide_eq_false (by have := HLE.out; omega)
    have t4 : decide ((a : Int) < 0) = false := decide_eq_false (by omega)
    clear he HE0 HE1 HC2 HL2 HWR HCK HLE
    go_wp2_with fail
    refine (HPA1.out _ HB.out).mono ?_
    rintro e w5 ⟨v5, rfl, hv, hb⟩
    obtain ⟨A5, c5, rfl, hc5, hC5⟩ := Kd.R_reads hv
    have HC5 := Aside0.mk hC5
    have HL5 := Aside0.mk hc5
    replace HB := Aside0.mk (below_step HB.out hb)
    clear hv hb hc5 hC5 HPA1
    by_cases hf : F = 0
    · obtain ⟨k1, k2⟩ := HF0.out hf
      subst hf
      have HT := HTX.out D k2 A5 c5 _ HB.out HC5.out HL5.out
      rw [k1] at HT
      have HT5 := Aside0.mk HT
      clear k1 k2 HT HF0 HF1 HC5 HL5 HTX
      go_wp2_with fail
      refine HT5.out.mono ?_
      rintro e w6 ⟨rfl, hb⟩
      have hfin := below_step HB.out hb
      clear hb
      go_wp2_with fail
      go_ret
      exact ⟨by first | rfl | (simp; done), hfin⟩
    · have t1 : (F != 0) = true := bne_iff_ne.mpr hf
      obtain rfl := HF1.out hf
      have hfin := HB.out
      clear hf HF0 HF1 HC5 HL5
      go_wp2_with fail
      go_ret
      exact ⟨rfl, hfin⟩
end Go.Proofs.YtciolchdihlgfaaDoor.Sc
