import Derived.Test.YtmoopdhnnpjcfaaDoorStA
/-! ColumnSteps: the call. -/
namespace Go.Proofs.YtmoopdhnnpjcfaaDoor.St
open Go.RowKit Go.Proofs.YtmoopdhnnpjcfaaDoorW.PrintWords Go.Proofs.YtmoopdhnnpjcfaaDoorW.PrintLast Go.Proofs.YtmoopdhnnpjcfaaDoorW.PrintMore Go.Proofs.YtmoopdhnnpjcfaaDoor.Wire Go.Proofs.YtmoopdhnnpjcfaaDoor.PCo Go.Proofs.YtmoopdhnnpjcfaaDoor.CoG Go.Proofs.YtmoopdhnnpjcfaaDoor.Rd Go.Proofs.YtmoopdhnnpjcfaaDoor.Co
set_option linter.unusedVariables false
set_option linter.unusedSimpArgs false
set_option maxRecDepth 100000
theorem size_calls (x : Nat) (hx : x < 18446744073709551616) (w : World) : Calls Tryd.prog 30 #[.int .u64 (x : Int)] w fun e w' => e = .returned (.int .i64 (usz x : Int)) ∧ Below w.heap.size w w' := wire_Size.calls 12 _ _ w (size x hx 12 (by decide))
theorem steplen_calls (st : Int) (hs : -9223372036854775808 ≤ st ∧ st ≤ 9223372036854775807) (w : World) : Calls Tryd.prog 30 #[.int .u64 (zigS st)] w fun e w' => e = .returned (.int .i64 (stepLen st : Int)) ∧ Below w.heap.size w w' := by
  have h := zig_range hs.1 hs.2
  have := size_calls (zigS st).toNat (by omega) w
  rw [Int.toNat_of_nonneg h.1] at this
  exact this
theorem one_calls (kd x st : Int) (hk : kd = 0 ∨ kd = 1 ∨ kd = 5) (hx : 0 ≤ x ∧ x < 18446744073709551616) (w : World) (hU : UtfW w) : Calls Tryd.prog 22 #[.int .i64 kd, .slice (some ⟨w.heap.size, 0, none⟩) 1 1] (w.alloc (.cells #[.int .u64 x, .string e0] 47)) fun e w' => ∃ v, e = .returned (.tuple #[v, .int .i64 0]) ∧ Kd.R (Kd.int .u8) 5 w' w.heap.size (fun _ => True) v (wBytes kd (one x)) ∧ Below w.heap.size w w' := by
  have hrow := cells_row w (one x) [.int .u64 x, .string e0] (fun w' => Reps.c2 (k47_mkM _ _ _ _) (Reps.none _ _)) (by simp [one])
  have hbl := below_alloc (Below.refl w.heap.size w) (.cells #[.int .u64 x, .string e0] 47)
  refine (write_calls kd (A := some ⟨w.heap.size, 0, none⟩) (c := 1) (l := one x) _ hrow (Nat.le_refl _) (small_ris x st (k := 1) (by decide)) hx (hU.below hbl)).mono ?_
  rintro e w' ⟨v, rfl, hv, b⟩
  exact ⟨v, by rw [show wErr kd (one x) = 0 from err_num (st := st) hk 1], Kd.R_lower hv (by simp), below_step hbl b⟩
set_option maxHeartbeats 8000000 in
theorem steps_calls (x st : Int) (n : Nat) (hx : 0 ≤ x ∧ x < 18446744073709551616) (hs : -9223372036854775808 ≤ st ∧ st ≤ 9223372036854775807) (hn : n < 256) (w : World) (hU : UtfW w) :
    Calls Tryd.prog 7 #[.int .u64 x, .int .i64 st, .int .u8 (n : Int)] w fun e w' => e = .returned (.bool true) ∧ Below w.heap.size w w' := by
  have HU := Aside0.mk hU
  have HX := Aside0.mk hx
  have HS := Aside0.mk hs
  obtain ⟨j0, hj0⟩ : ∃ j0, n % 50 = j0 := ⟨_, rfl⟩
  have hjb : j0 < 50 := by omega
  have hK : (1 : Int) + (n : Int) % 50 = ((1 + j0 : Nat) : Int) := by omega
  obtain ⟨K, hKe⟩ : ∃ K, 1 + j0 = K := ⟨_, rfl⟩
  rw [hKe] at hK
  have HKE := Aside0.mk hKe
  have hKb : K ≤ 50 := by omega
  clear hU hx hs hj0 hjb hKe
  go_enter Tryd.func7, Tryd.ntmps7
  go_wp2_with fail
  go_loopw [8, 9, 22] (fun v y i wr => ∃ j : Nat, j ≤ K ∧ i = .int .i64 (j : Int) ∧ y = .int .u64 (ris x st j) ∧ Aside0 (Kd.R k47 47 wr w.heap.size (fun _ => True) v (risl x st j)) ∧ Aside0 (Below w.heap.size w wr) ∧ (∃ B d, v = .slice B j d)) (fun _ _ i _ => K - (intOf i).toNat)
  case atStart => exact ⟨0, by omega, rfl, rfl, ⟨Kd.R_nil _ _ _ _ _⟩, ⟨Below.refl _ _⟩, none, 0, rfl⟩
  case round =>
    obtain ⟨j, hj, rfl, rfl, HR, HB, B, d, rfl⟩ := hrel
    by_cases hlt : j < K
    · have u1 : decide ((j : Int) < (K : Int)) = true := decide_eq_true (by omega)
      have u2 : decide (j < K) = true := decide_eq_true hlt
      have hmax : (j : Int) + 1 ≤ 9223372036854775807 := by omega
      have HLT := Aside0.mk hlt
      obtain ⟨y, hy⟩ : ∃ y, ris x st j = y := ⟨_, rfl⟩
      have HN := Aside0.mk (show ris x st (j + 1) = IntKind.u64.wrap (y + IntKind.u64.wrap st) from by rw [ris, hy])
      have HRW := Aside0.mk (show risl x st (j + 1) = risl x st j ++ [(⟨y, e0⟩ : S47)] from by rw [risl, hy])
      have HLE := Aside0.mk (risl_len x st j)
      have HOB := Aside0.mk HB.out.size
      rw [hy]
      clear hlt hj hy hK
      go_wp2_with (at_builtin; refine Kd.R_append k47 (w0 := w) w.heap.size rfl (.tmp 24) (.tmp 27) 22 47 (.agg #[.int .u64 0, .string ⟨#[]⟩]) 24 rfl Tryd.underlying22 infoC rfl (by decide) (by decide) _ (risl x st j) ⟨y, ⟨#[]⟩⟩ [.int .u64 y, .string ⟨#[]⟩] (fun _ => True) (fun _ => False) rfl rfl (k47_mkM _ _ _ _) (fun _ h => h.elim) (fun _ _ => trivial) HR.out HB.out HOB.out ?aL ?_; (case aL => rw [HLE.out]; have := HLT.out; omega); intro v1 w1 hr1 hb1 hg1 hat1; have HR1 := Aside0.mk hr1; have HB1 := Aside0.mk hb1; obtain ⟨B3, d3, hv1⟩ := Kd.R_slice hr1; rw [List.length_append, HLE.out, show j + [(⟨y, ⟨#[]⟩⟩ : S47)].length = j + 1 from by simp] at hv1; subst hv1; clear hr1 hb1 hg1 hat1)
      rw [← HN.out]
      go_roundw
      case rel => exact ⟨j + 1, HLT.out, by go_num, rfl, ⟨by rw [HRW.out]; exact HR1.out⟩, ⟨HB1.out⟩, B3, d3, rfl⟩
      case measure => have := HLT.out; simp [intOf]; omega
    · have u1 : decide ((j : Int) < (K : Int)) = false := decide_eq_false (by omega)
      have u2 : decide (j < K) = false := decide_eq_false hlt
      obtain rfl : K = j := by omega
      clear hlt hj hK
      go_wp2_with fail
      have hbx : (wr.alloc (.cells #[.int .i64 0, .int .i64 1, .int .i64 5] 3)).heap[wr.heap.size]? = some (.cells #[.int .i64 0, .int .i64 1, .int .i64 5] 3 (0, 0)) := heap_alloc_new wr _
      have hba := below_alloc (Below.refl wr.heap.size wr) (.cells #[.int .i64 0, .int .i64 1, .int .i64 5] 3)
      have HR0 := Aside0.mk (Kd.R_below HR.out hba)
      have HB0 := Aside0.mk (below_step HB.out hba)
      have HX0 := Aside0.mk hbx
      clear hba hbx HR HB
      obtain ⟨ad, had⟩ : ∃ ad : Addr, (⟨wr.heap.size, 0, none⟩ : Addr) = ad := ⟨_, rfl⟩
      have HAD := Aside0.mk had
      rw [had]
      obtain ⟨w0, hw0⟩ : ∃ w0, wr.alloc (.cells #[.int .i64 0, .int .i64 1, .int .i64 5] 3) = w0 := ⟨_, rfl⟩
      rw [hw0] at HR0 HB0 HX0 ⊢
      obtain ⟨lb, hlb⟩ : ∃ lb, wr.heap.size = lb := ⟨_, rfl⟩
      rw [hlb] at HAD HX0
      clear hw0 had hlb u1 u2
      go_loopw [36] (fun i wr => ∃ j : Nat, j ≤ 3 ∧ i = .int .i64 (j : Int) ∧ Aside0 (Below w0.heap.size w0 wr)) (fun i _ => 3 - (intOf i).toNat)
      case atStart => exact ⟨0, by omega, rfl, ⟨Below.refl _ _⟩⟩
      case round =>
        obtain ⟨j, hj, rfl, HBr⟩ := hrel
        by_cases hlt : j < 3
        · have q1 : decide ((j : Int) < 3) = true := decide_eq_true (by omega)
          have q2 : decide (j < 3) = true := decide_eq_true hlt
          have hmax : (j : Int) + 1 ≤ 9223372036854775807 := by omega
          have HLT := Aside0.mk hlt
          have p1 : (0 ≤ (j : Int)) = True := eq_true (by omega)
          have p2 : ((j : Int) < 3) = True := eq_true (by omega)
          have HXr := blk_below HX0.out HBr.out
          obtain ⟨kd, HKD, hc⟩ : ∃ kd : Int, Aside0 (kd = 0 ∨ kd = 1 ∨ kd = 5) ∧ wr.cell? (ad.add j) = some (.int .i64 kd) := by
            rw [← HAD.out]
            rcases (show j = 0 ∨ j = 1 ∨ j = 2 by omega) with rfl | rfl | rfl
            · exact ⟨0, ⟨.inl rfl⟩, (blk_cell HXr 0).trans rfl⟩
            · exact ⟨1, ⟨.inr (.inl rfl)⟩, (blk_cell HXr 1).trans rfl⟩
            · exact ⟨5, ⟨.inr (.inr rfl)⟩, (blk_cell HXr 2).trans rfl⟩
          have HRr := Aside0.mk (Kd.R_below HR0.out HBr.out)
          have HBw := Aside0.mk (below_step HB0.out HBr.out)
          obtain ⟨A, c, hA, hAl, hAr⟩ := Kd.R_reads HRr.out
          rw [risl_len] at hA
          injection hA with hA1 hA2 hA3
          subst hA1 hA3
          clear hA2
          have HCr := Aside0.mk hAr
          have HCW := Aside0.mk (write_calls kd (l := risl x st K) wr hAr hAl (small_ris x st (by omega)) (by rw [nm_at x st (by have := HKE.out; omega)]; exact HX.out) (HU.out.below HBw.out))
          rw [risl_len, err_num HKD.out] at HCW
          clear hlt hj HXr hAl hAr
          go_wp2_with fail
          refine HCW.out.mono ?_
          rintro e w1 ⟨v1, rfl, hv1, b1⟩
          obtain ⟨A1, c1, hs1⟩ := Kd.R_slice hv1
          obtain ⟨L1, hL1⟩ : ∃ L1, (wBytes kd (risl x st K)).length = L1 := ⟨_, rfl⟩
          rw [hL1] at hs1
          subst hs1
          have HL1 := Aside0.mk hL1
          have HB1 := Aside0.mk (below_step HBr.out b1)
          have HBw1 := Aside0.mk (below_step HBw.out b1)
          have HC1 := Aside0.mk (Kd.C_below HCr.out b1)
          obtain ⟨ad2, e2, g0, g1⟩ := at_T47 HC1.out 0 (by decide) (by have := HKE.out; rw [risl_len]; omega)
          cases e2
          rw [show rd_T47 (risl x st K) 0 = ⟨x, e0⟩ from rd_at x st (i := 0) (by have := HKE.out; omega)] at g0 g1
          obtain ⟨bk, off, sp⟩ := ad2
          obtain rfl : sp = none := by
            cases sp with
            | none => rfl
            | some q =>
              have hnone : w1.cell? ⟨bk, off, some q⟩ = none := by unfold World.cell?; split <;> simp
              simp [Addr.add] at g0
              rw [hnone] at g0
              cases g0
          simp [Addr.add] at g0 g1
          have HV1 := Aside0.mk hv1
          clear b1 hL1 hv1 HCW HRr HBr HBw HCr hc
          have hK1 : 1 ≤ K := by have := HKE.out; omega
          have p3 : ((0 : Int) < (K : Int)) = True := eq_true (by omega)
          have p4 : decide (0 < K) = true := decide_eq_true (by omega)
          go_wp2_with fail
          refine (one_calls kd x st HKD.out HX.out w1 (HU.out.below HBw1.out)).mono ?_
          rintro e w2 ⟨v2, rfl, hv2, b2⟩
          obtain ⟨A2, c2, hs2⟩ := Kd.R_slice hv2
          obtain ⟨L2, hL2⟩ : ∃ L2, (wBytes kd (one x)).length = L2 := ⟨_, rfl⟩
          rw [hL2] at hs2
          subst hs2
          have HB2 := Aside0.mk (below_step HB1.out b2)
          obtain ⟨P, hP⟩ : ∃ P, j0 * stepLen st = P := ⟨_, rfl⟩
          have hlen := len_num (kd := kd) (x := x) (st := st) HKD.out HS.out j0
          rw [HKE.out, HL1.out, hL2, hP] at hlen
          have hz := stepLen_le HS.out
          have hPb : P ≤ 490 := by
            rw [← hP]
            have : j0 ≤ 49 := by have := HKE.out; omega
            exact Nat.mul_le_mul this hz
          have hL2b : L2 ≤ 10 := by rw [← hL2]; exact wb_bound (st := st) HKD.out HS.out HX.out
          obtain ⟨Z, hZ⟩ : ∃ Z, stepLen st = Z := ⟨_, rfl⟩
          have HZC := Aside0.mk (fun W => steplen_calls st HS.out W)
          rw [hZ] at HZC hz hP
          have hm : ((K : Int) - 1) * (Z : Int) = (P : Int) := by rw [← hP, show (K : Int) - 1 = (j0 : Int) by have := HKE.out; omega]; simp
          have HM := Aside0.mk hm
          have HLN := Aside0.mk hlen
          have HZI := Aside0.mk (fun W => wire_Zig.calls st _ W (zig HS.out.1 HS.out.2))
          clear hm hZ hP hlen hL2 hv2 b2 g0 g1 HV1
          go_wp2_with fail
          refine (HZI.out _).mono ?_
          rintro e w3 ⟨rfl, ⟨m3, rfl⟩⟩
          go_wp2_with fail
          refine (HZC.out _).mono ?_
          rintro e w4 ⟨rfl, b4⟩
          have HB4 := Aside0.mk (below_step HB2.out (below_step (pw_below_drewN (Below.refl _ _) m3) b4))
          clear b4
          have hm := HM.out
          have e1 : ((L1 : Int) != (L2 : Int) + (P : Int)) = false := by have := HLN.out; simp; omega
          have e2 : decide ((L1 : Int) = (L2 : Int) + (P : Int)) = true := decide_eq_true (by have := HLN.out; omega)
          have hL2b2 : 0 ≤ (P : Int) ∧ (P : Int) ≤ 490 := by omega
          clear hz
          go_wp2_with fail
          go_roundw
          case rel => exact ⟨j + 1, HLT.out, by go_num, ⟨HB4.out⟩⟩
          case measure => have := HLT.out; simp [intOf]; omega
        · have q1 : decide ((j : Int) < 3) = false := decide_eq_false (by omega)
          have q2 : decide (j < 3) = false := decide_eq_false hlt
          obtain rfl : j = 3 := by omega
          have HBw := Aside0.mk (below_step HB0.out HBr.out)
          clear hlt hj
          go_wp2_with fail
          refine (alive_calls _ (HU.out.below HBw.out)).mono ?_
          rintro e w9 ⟨rfl, b9⟩
          go_wp2
          go_ret
          exact ⟨rfl, below_step HBw.out b9⟩
theorem law_calls (x st n : Int) (hx : (Lit.int .u64 x).wf = true) (hs : (Lit.int .i64 st).wf = true) (hn : (Lit.int .u8 n).wf = true) (w : World) (hU : UtfW w) :
    Calls Tryd.prog 7 #[.int .u64 x, .int .i64 st, .int .u8 n] w fun e w' => e = .returned (.bool true) ∧ Below w.heap.size w w' := by
  have h := wf_u8 hn
  obtain ⟨m, rfl⟩ := Int.eq_ofNat_of_zero_le h.1
  exact steps_calls x st m (wf_u64 hx) (wf_i64 hs) (by omega) w hU
end Go.Proofs.YtmoopdhnnpjcfaaDoor.St
