import Derived.Test.YtnmjelcicbfjdaaDoorScI
/-! Schema: the document's Write, Print. -/
namespace Go.Proofs.YtnmjelcicbfjdaaDoor.Sc
open Go.RowKit Go.Proofs.YtnmjelcicbfjdaaDoorW.PrintWords Go.Proofs.YtnmjelcicbfjdaaDoorW.PrintLast Go.Proofs.YtnmjelcicbfjdaaDoorW.PrintMore Go.Proofs.YtnmjelcicbfjdaaDoor.Wire Go.Proofs.YtnmjelcicbfjdaaDoor.PSc Go.Proofs.YtnmjelcicbfjdaaDoor.Co Go.Proofs.YtnmjelcicbfjdaaDoor.Ce
set_option linter.unusedVariables false
set_option linter.unusedSimpArgs false
set_option maxRecDepth 100000
theorem ruint_calls (x : Int) (h0 : 0 ≤ x) (h1 : x < 18446744073709551616) (w : World) : Calls Tryd.prog 63 #[.int .u64 x] w fun e w' => ∃ v : Value, e = .returned v ∧ Kd.R (Kd.int .u8) 5 w' w.heap.size (fun _ => True) v (uv x.toNat) ∧ Below w.heap.size w w' := by
  obtain ⟨n, rfl⟩ := Int.eq_ofNat_of_zero_le h0
  rw [Int.toNat_natCast]
  exact deckleref01_Uint.calls 12 _ _ w (ScG.refUint n (by omega) 12 (by decide))
theorem rbytes_calls {A : Option Addr} {c n : Nat} {l : List Int} (hn : l.length = n) (hl : l.length ≤ 140737488351232) (hc : l.length ≤ c) (w : World) (hr : Kd.C (Kd.int .u8) w A l.length l) : Calls Tryd.prog 64 #[.slice A n c] w fun e w' => ∃ v : Value, e = .returned v ∧ Kd.R (Kd.int .u8) 5 w' w.heap.size (fun _ => True) v (uv l.length ++ l) ∧ Below w.heap.size w w' := by
  subst hn
  exact deckleref01_Bytes.calls 12 A c l _ w hr hc (ScG.refBytes l hl 12 (by decide))
set_option maxHeartbeats 16000000 in
theorem rwrite_calls {A : Option Addr} {c : Nat} {l : List Col} (w : World) (hk : sck l = 0) (hr : Kd.C k54 w A l.length l) (hc : l.length ≤ c) :
    Calls Tryd.prog 34 #[.slice A l.length c] w fun e w' => ∃ v, e = .returned v ∧ Kd.R (Kd.int .u8) 5 w' w.heap.size (fun _ => True) v (wS l) ∧ Below w.heap.size w w' := by
  have HR := Aside0.mk hr
  obtain ⟨⟨hn0, hn8⟩, hall⟩ := sck_small hk
  have HALL := Aside0.mk hall
  have HN8 := Aside0.mk hn8
  obtain ⟨n, hn⟩ : ∃ n, l.length = n := ⟨_, rfl⟩
  have HN := Aside0.mk hn
  have HU := Aside0.mk (fun W => ruint_calls (n : Int) (by omega) (by omega) W)
  rw [Int.toNat_natCast] at HU
  rw [hn]
  have wn : IntKind.u64.wrap (n : Int) = (n : Int) := by rw [IntKind.wrap_u64]; omega
  clear hr hc hk hn hn0 hn8 hall
  go_enter Tryd.func34, Tryd.ntmps34
  go_wp2_with fail
  clear wn
  refine (HU.out _).mono ?_
  rintro e w2 ⟨v2, rfl, hv, hb⟩
  have HO := Aside0.mk hv
  have HB := Aside0.mk hb
  clear hv hb HU
  go_wp2_with fail
  go_loopw [3, 4] (fun v i wr => ∃ j : Nat, j ≤ n ∧ i = .int .i64 (j : Int) ∧ Aside0 (Kd.R (Kd.int .u8) 5 wr w.heap.size (fun _ => True) v (uv n ++ wcs (l.take j))) ∧ Aside0 (Below w.heap.size w wr)) (fun _ i _ => n - (intOf i).toNat)
  case atStart => exact ⟨0, by omega, rfl, ⟨by rw [List.take_zero, show wcs [] = [] from rfl, List.append_nil]; exact HO.out⟩, ⟨HB.out⟩⟩
  case round =>
    clear HO HB
    obtain ⟨j, hj, rfl, HO, HB⟩ := hrel
    obtain ⟨A5, c5, rfl⟩ := Kd.R_slice HO.out
    by_cases hlt : j < n
    · have u1 : decide ((j : Int) < (n : Int)) = true := decide_eq_true (by omega)
      have u2 : decide (j < n) = true := decide_eq_true hlt
      have HLT := Aside0.mk hlt
      obtain ⟨ad, e, h0, h1⟩ := at_T54 (Kd.C_below HR.out HB.out) (j : Int) (by omega) (by have := HN.out; omega)
      cases e
      rw [Int.toNat_natCast] at h0 h1
      have p1 : (0 ≤ (j : Int)) = True := eq_true (by omega)
      have p2 : ((j : Int) < (n : Int)) = True := eq_true (by omega)
      have hmax : (j : Int) + 1 ≤ 9223372036854775807 := by have := HN8.out; have := HN.out; omega
      have HTX := Aside0.mk (wcs_take (l := l) (j := j) (by have := HN.out; omega))
      have HSM := Aside0.mk (HALL.out _ (rd_mem (l := l) (j := j) (by have := HN.out; omega)))
      have HPL := Aside0.mk (show (uv n ++ wcs (l.take j)).length ≤ 300 from by
        rw [List.length_append, usz_small (by have := HN8.out; have := HN.out; omega)]
        have h2 := wcs_len (l := l.take j) (fun c hc => (HALL.out c (List.mem_of_mem_take hc)).1)
        rw [List.length_take] at h2
        have := HN8.out; omega)
      unfold wcol at HTX
      obtain ⟨s, hse⟩ : ∃ s, (rd_T54 l (j : Int)).f0 = s := ⟨_, rfl⟩
      obtain ⟨kd, hke⟩ : ∃ k, (rd_T54 l (j : Int)).f1 = k := ⟨_, rfl⟩
      have HKE := Aside0.mk hke
      rw [hse] at h0 HTX HSM
      rw [hke] at h1 HTX HSM
      obtain ⟨pre, hpre⟩ : ∃ pre, uv n ++ wcs (l.take j) = pre := ⟨_, rfl⟩
      rw [hpre] at HO HPL ⊢
      have HPRE := Aside0.mk hpre
      have kc := print_bytes (P := Tryd.prog) 9 55 5 Tryd.underlying9 Tryd.underlying55 Tryd.underlying5 s wr
      clear hj hlt hse hke hpre
      go_wp2_with fail
      have hb := bytes_below (Below.refl wr.heap.size wr) (Nat.le_refl _) 5 s
      have hcr : Kd.C (Kd.int .u8) (Lib.bytesWorld wr 5 s) (some ⟨wr.heap.size, 0, none⟩) (bytesOf s).length (bytesOf s) := by rw [bytesOf_length]; exact Kd.C_of_reads (d := (0 : Int)) (h1 := fun _ => rfl) (bytes_reads wr 5 s (by have := HSM.out; omega))
      have hcap : s.size ≤ grownCap wr s.size 0 5 := grownCap_ge _ _ _ _
      obtain ⟨P, hP⟩ : ∃ P, uv (bytesOf s).length ++ bytesOf s = P := ⟨_, rfl⟩
      have hwb := rbytes_calls (n := s.size) (bytesOf_length s) (by rw [bytesOf_length]; have := HSM.out; omega) (by rw [bytesOf_length]; exact hcap) _ hcr
      rw [hP] at hwb
      have HWB := Aside0.mk hwb
      have HPS := Aside0.mk (show P.length ≤ 40 from by rw [← hP, List.length_append, usz_small (by rw [bytesOf_length]; have := HSM.out; omega), bytesOf_length]; have := HSM.out; omega)
      have HPP := Aside0.mk (show uv s.size ++ bytesOf s = P from by rw [← hP, bytesOf_length])
      replace HO := Aside0.mk (Kd.R_below HO.out hb)
      replace HB := Aside0.mk (below_step HB.out hb)
      clear hb hcr hcap hP hwb kc h0 h1
      refine HWB.out.mono ?_
      rintro e w3 ⟨v7, rfl, hv, hb⟩
      obtain ⟨A7, c7, rfl⟩ := Kd.R_slice hv
      have HV := Aside0.mk hv
      replace HO := Aside0.mk (Kd.R_below HO.out hb)
      replace HB := Aside0.mk (below_step HB.out hb)
      clear hv hb HWB
      clear u1 u2 p1 p2 hmax
      go_wp2_with (first | (at_builtin; refine Kd.R_append_rows (Kd.int .u8) (w0 := w) w.heap.size rfl (.tmp 15) (.tmp 22) 55 5 (.int .u8 0) 1 rfl Tryd.underlying55 infoB rfl (by decide) (by omega) _ pre P A7 _ c7 (fun _ => True) (fun _ => False) rfl rfl HO.out (Kd.R_reads' HV.out).2.2 (fun _ _ h => h) (fun _ h => h.elim) (fun _ _ => trivial) HB.out HB.out.size ?aL ?_; (case aL => have := HPL.out; have := HPS.out; omega); intro v8 w4 ho hb hg hat; have HO4 := Aside0.mk ho; have HB4 := Aside0.mk hb; obtain ⟨ad4, e4, g0, g1⟩ := at_T54 (Kd.C_below HR.out hb) (j : Int) (by omega) (by have := HN.out; have := HLT.out; omega); cases e4; rw [Int.toNat_natCast, HKE.out] at g1; have p1 : (0 ≤ (j : Int)) = True := eq_true (by omega); have p2 : ((j : Int) < (n : Int)) = True := eq_true (by have := HLT.out; omega); clear g0 ho hb hg hat) | (at_builtin; have hbA := below_alloc (Below.refl w4.heap.size w4) (.cells #[.int .u8 (kd % 256)] 5); refine Kd.R_append_rows (Kd.int .u8) (w0 := w) w.heap.size rfl (.tmp 24) (.tmp 31) 55 5 (.int .u8 0) 1 rfl Tryd.underlying55 infoB rfl (by decide) (by omega) _ (pre ++ P) [kd % 256] (some ⟨w4.heap.size, 0, none⟩) 1 1 (fun _ => True) (fun _ => False) rfl rfl (Kd.R_below HO4.out hbA) (lit1 (heap_alloc_new w4 _)) (fun _ _ h => h) (fun _ h => h.elim) (fun _ _ => trivial) (below_step HB4.out hbA) (Nat.le_trans HB4.out.size hbA.size) ?bL ?_; (case bL => have := HPL.out; have := HPS.out; rw [List.length_append]; omega); intro v9 w5 ho hb hg hat; have HO5 := Aside0.mk ho; have HB5 := Aside0.mk hb; have hmax : (j : Int) + 1 ≤ 9223372036854775807 := (by have := HN8.out; have := HN.out; have := HLT.out; omega); clear ho hb hg hat hbA))
      go_roundw
      case rel => exact ⟨j + 1, HLT.out, by go_num, ⟨by rw [HTX.out, HPP.out, ← List.append_assoc, ← List.append_assoc, HPRE.out]; exact HO5.out⟩, ⟨HB5.out⟩⟩
      case measure => have := HLT.out; simp [intOf]; omega
    · have u1 : decide ((j : Int) < (n : Int)) = false := decide_eq_false (by omega)
      have u2 : decide (j < n) = false := decide_eq_false hlt
      have hfin : uv n ++ wcs (l.take j) = wS l := by rw [List.take_of_length_le (by have := HN.out; omega)]; unfold wS; rw [HN.out]
      rw [hfin] at HO ⊢
      clear hj hlt hfin
      go_wp2
      go_ret
      exact ⟨_, rfl, HO.out, HB.out⟩
set_option maxHeartbeats 8000000 in
theorem rprint_calls {A : Option Addr} {c : Nat} {l : List Col} (w : World) (hk : sck l = 0) (hr : Kd.C k54 w A l.length l) (hc : l.length ≤ c) :
    Calls Tryd.prog 35 #[.slice A l.length c] w fun e w' => e = .returned (.int .u32 (crc (wS l))) ∧ Below w.heap.size w w' := by
  have HW := Aside0.mk (rwrite_calls w hk hr hc)
  have HL := Aside0.mk (show (wS l).length ≤ 140737488351232 from by
    obtain ⟨⟨-, h8⟩, hall⟩ := sck_small hk
    have := wcs_len (l := l) (fun c hc => (hall c hc).1)
    unfold wS
    rw [List.length_append, usz_small (by omega)]; omega)
  obtain ⟨n, hn⟩ : ∃ n, l.length = n := ⟨_, rfl⟩
  rw [hn] at HW ⊢
  clear hk hr hc hn
  go_enter Tryd.func35, Tryd.ntmps35
  go_wp2_with fail
  refine HW.out.mono ?_
  rintro e w1 ⟨v, rfl, hv, hb⟩
  obtain ⟨A1, c1, rfl, hc1, hC⟩ := Kd.R_reads hv
  have HC := Aside0.mk (PCb.deckleref02_Sum.calls _ A1 c1 (wS l) _ w1 hC hc1 (CbC.rsum wS_bytes HL.out (10 * (wS l).length + 1) (Nat.lt_succ_self _)))
  have HB := Aside0.mk hb
  clear hv hb hC hc1 HW HL
  go_wp2_with fail
  refine HC.out.mono ?_
  rintro e w2 ⟨rfl, hd⟩
  have hfin := below_step HB.out hd.below
  go_wp2_with fail
  go_ret
  exact ⟨rfl, hfin⟩
end Go.Proofs.YtnmjelcicbfjdaaDoor.Sc
