import Derived.Test.YtamnnaadnjkdiaaRbC
/-! ReaderBack: the law. -/
namespace Go.Proofs.Ytamnnaadnjkdiaa.Rb
open Go.RowKit Go.Proofs.YtamnnaadnjkdiaaW.PrintWords Go.Proofs.YtamnnaadnjkdiaaW.PrintLast Go.Proofs.YtamnnaadnjkdiaaW.PrintMore Go.Proofs.Ytamnnaadnjkdiaa.Wire Go.Proofs.Ytamnnaadnjkdiaa.Frame Go.Proofs.Ytamnnaadnjkdiaa.Rd Go.Proofs.Ytamnnaadnjkdiaa.PWi Go.Proofs.Ytamnnaadnjkdiaa.WiG
set_option linter.unusedVariables false
set_option linter.unusedSimpArgs false
set_option maxRecDepth 100000
theorem boxes {w w1 : World} {t1 t2 : TypeId} {u1 u2 : Value} (b1 : Below ((w.alloc (.cells #[u1] t1)).alloc (.cells #[u2] t2)).heap.size ((w.alloc (.cells #[u1] t1)).alloc (.cells #[u2] t2)) w1) :
    w1.heap[w.heap.size]? = some (.cells #[u1] t1 (0, 0)) ∧ w1.heap[w.heap.size + 1]? = some (.cells #[u2] t2 (0, 0)) ∧ Below w.heap.size w w1 := by
  refine ⟨blk_below (blk_alloc (heap_alloc_new w _) _) b1, blk_below ?_ b1, below_step (below_alloc (below_alloc (Below.refl w.heap.size w) _) _) b1⟩
  have := heap_alloc_new (w.alloc (.cells #[u1] t1)) (.cells #[u2] t2)
  simpa using this
set_option maxHeartbeats 4000000 in
theorem readerBack_big (A1 A2 : Option Addr) (n1 c1 n2 c2 : Nat) (w : World) (hbig : 100 < n1 ∨ 30 < n2) :
    Calls Try.prog 9 #[.slice A1 n1 c1, .slice A2 n2 c2] w fun e w' => e = .returned (.bool true) ∧ Below w.heap.size w w' := by
  by_cases hb : 100 < n1
  · have t1 : decide ((100 : Int) < (n1 : Int)) = true := decide_eq_true (by omega)
    have t2 : decide (100 < n1) = true := decide_eq_true hb
    clear hbig hb
    go_enter Try.func9, Try.ntmps9
    go_wp2_with fail
    refine (alive_calls _).mono ?_
    rintro e w1 ⟨rfl, b1⟩
    obtain ⟨x1, x2, x3⟩ := boxes b1
    have cb : w1.cell? ⟨w.heap.size, 0, none⟩ = some (.slice A1 n1 c1) := (blk_cell x1 0).trans rfl
    have HB1 := Aside0.mk x3
    clear x1 x2 x3 b1
    go_wp2_with fail
    refine (alive_calls _).mono ?_
    rintro e w2 ⟨rfl, b2⟩
    go_wp2
    go_ret
    exact ⟨rfl, below_step HB1.out b2⟩
  · have t1 : decide ((100 : Int) < (n1 : Int)) = false := decide_eq_false (by omega)
    have t2 : decide (100 < n1) = false := decide_eq_false hb
    have t3 : decide ((30 : Int) < (n2 : Int)) = true := decide_eq_true (by omega)
    have t4 : decide (30 < n2) = true := decide_eq_true (by omega)
    clear hbig hb
    go_enter Try.func9, Try.ntmps9
    go_wp2_with fail
    refine (alive_calls _).mono ?_
    rintro e w1 ⟨rfl, b1⟩
    obtain ⟨x1, x2, x3⟩ := boxes b1
    have cb : w1.cell? ⟨w.heap.size, 0, none⟩ = some (.slice A1 n1 c1) := (blk_cell x1 0).trans rfl
    have cl : w1.cell? ⟨w.heap.size + 1, 0, none⟩ = some (.slice A2 n2 c2) := (blk_cell x2 0).trans rfl
    have HB1 := Aside0.mk x3
    clear x1 x2 x3 b1
    go_wp2_with fail
    refine (alive_calls _).mono ?_
    rintro e w2 ⟨rfl, b2⟩
    go_wp2
    go_ret
    exact ⟨rfl, below_step HB1.out b2⟩
set_option maxHeartbeats 8000000 in
theorem readerBack_calls (A1 A2 : Option Addr) (c1 c2 : Nat) (xs : List Int) (ys : List (List Int)) (w : World) (hC1 : (Kd.int .i64).C w A1 xs.length xs) (hC2 : Kd.C (Kd.slice 5 (Kd.int .u8)) w A2 ys.length ys) (hf : Fine xs ys) :
    Calls Try.prog 9 #[.slice A1 xs.length c1, .slice A2 ys.length c2] w fun e w' => e = .returned (.bool true) ∧ Below w.heap.size w w' := by
  by_cases hbig : 100 < xs.length ∨ 30 < ys.length
  · exact readerBack_big A1 A2 xs.length c1 ys.length c2 w hbig
  · obtain ⟨n1, hn1⟩ : ∃ n1, xs.length = n1 := ⟨_, rfl⟩
    obtain ⟨n2, hn2⟩ : ∃ n2, ys.length = n2 := ⟨_, rfl⟩
    have HN1 := Aside0.mk hn1
    have HN2 := Aside0.mk hn2
    have HC1 := Aside0.mk hC1
    have HC2 := Aside0.mk hC2
    have HF := Aside0.mk hf
    rw [hn1, hn2] at hbig ⊢
    have b100 : n1 ≤ 100 := by omega
    have b30 : n2 ≤ 30 := by omega
    have t1 : decide ((100 : Int) < (n1 : Int)) = false := decide_eq_false (by omega)
    have t2 : decide (100 < n1) = false := decide_eq_false (by omega)
    have t3 : decide ((30 : Int) < (n2 : Int)) = false := decide_eq_false (by omega)
    have t4 : decide (30 < n2) = false := decide_eq_false (by omega)
    clear hbig hn1 hn2 hC1 hC2 hf
    go_enter Try.func9, Try.ntmps9
    go_wp2_with fail
    refine (alive_calls _).mono ?_
    rintro e w1 ⟨rfl, b1⟩
    obtain ⟨x1, x2, x3⟩ := boxes b1
    have cb : w1.cell? ⟨w.heap.size, 0, none⟩ = some (.slice A1 n1 c1) := (blk_cell x1 0).trans rfl
    have cl : w1.cell? ⟨w.heap.size + 1, 0, none⟩ = some (.slice A2 n2 c2) := (blk_cell x2 0).trans rfl
    have HB1 := Aside0.mk x3
    have HX1 := Aside0.mk x1
    have HX2 := Aside0.mk x2
    clear x1 x2 x3 b1
    have hz : lastp xs ys 0 = 0 := rfl
    go_wp2_with fail
    clear t1 t2 t3 t4 cb cl
    go_loopw [5, 6, 32] (fun v la i wr => ∃ j : Nat, j ≤ n1 ∧ i = .int .i64 (j : Int) ∧ la = .int .i64 (lastp xs ys j : Int) ∧ Aside0 (Kd.R (Kd.int .u8) 5 wr w1.heap.size (fun _ => True) v (cat xs ys j)) ∧ Aside0 (Below w1.heap.size w1 wr)) (fun _ _ i _ => n1 - (intOf i).toNat)
    case atStart => exact ⟨0, by omega, rfl, rfl, ⟨Kd.R_nil _ _ _ _ _⟩, ⟨Below.refl _ _⟩⟩
    case round =>
      obtain ⟨j, hj, rfl, rfl, HO, HB⟩ := hrel
      clear hz
      obtain ⟨A5, c5, rfl⟩ := Kd.R_slice HO.out
      by_cases hlt : j < n1
      · have u1 : decide ((j : Int) < (n1 : Int)) = true := decide_eq_true (by omega)
        have u2 : decide (j < n1) = true := decide_eq_true hlt
        have HLT := Aside0.mk hlt
        obtain ⟨ad, e, hx⟩ := Kd.at_int (Kd.C_below HC1.out (below_step HB1.out HB.out)) (j : Int) (by omega) (by have := HN1.out; omega)
        cases e
        rw [Int.toNat_natCast] at hx
        have p1 : (0 ≤ (j : Int)) = True := eq_true (by omega)
        have p2 : ((j : Int) < (n1 : Int)) = True := eq_true (by omega)
        have hmax : (j : Int) + 1 ≤ 9223372036854775807 := by omega
        have HI := Aside0.mk (wint_calls (rd xs (j : Int)) (HF.out.rd_ j).1 (HF.out.rd_ j).2)
        have HCS := Aside0.mk (show cat xs ys (j + 1) = cat xs ys j ++ uv (zigS (rd xs (j : Int))).toNat from by rw [cat, piece_num (by rw [HN1.out]; exact hlt)]; rfl)
        have HPS := Aside0.mk (pos_small HF.out (j + 1) (fun i hi => by have := HN1.out; omega))
        have HLP := Aside0.mk (lastp_succ xs ys j)
        have HPE := Aside0.mk (show pos xs ys (j + 1) = (cat xs ys j).length + (uv (zigS (rd xs (j : Int))).toNat).length from by unfold pos; rw [HCS.out, List.length_append])
        generalize rd xs (j : Int) = x at *
        clear hlt hj
        go_wp2_with fail
        refine (HI.out _).mono ?_
        rintro e w2 ⟨v2, rfl, hv2, b2⟩
        have HV2 := Aside0.mk hv2
        have HO2 := Aside0.mk (Kd.R_below HO.out b2)
        have HB2 := Aside0.mk (below_step HB.out b2)
        clear hv2 b2 HO HB
        obtain ⟨A6, c6, rfl⟩ := Kd.R_slice HV2.out
        go_wp2_with (at_builtin; refine Kd.R_append_rows (Kd.int .u8) (w0 := w1) w1.heap.size rfl (.tmp 38) (.tmp 40) 22 5 (.int .u8 0) 1 rfl Try.underlying22 infoB rfl (by decide) (by omega) _ (cat xs ys j) (uv (zigS x).toNat) A6 _ c6 (fun _ => True) (fun _ => False) rfl rfl ?aO ?aR (fun _ _ h => h) (fun _ h => h.elim) ?aF ?aB ?aS ?aL ?_; (case aO => exact HO2.out); (case aR => exact (Kd.R_reads' HV2.out).2.2); (case aF => exact fun _ _ => trivial); (case aB => exact HB2.out); (case aS => exact HB2.out.size); (case aL => have := HPS.out; have := HPE.out; have := HLT.out; omega); intro v3 w3 ho3 hb3 hg3 hat3; have HO3 := Aside0.mk ho3; have HB3 := Aside0.mk hb3; clear ho3 hb3 hg3 hat3)
        go_roundw
        case rel => exact ⟨j + 1, HLT.out, by go_num, by rw [HLP.out], ⟨by rw [HCS.out]; exact HO3.out⟩, ⟨HB3.out⟩⟩
        case measure => have := HLT.out; simp [intOf]; omega
      · have u1 : decide ((j : Int) < (n1 : Int)) = false := decide_eq_false (by omega)
        have u2 : decide (j < n1) = false := decide_eq_false hlt
        obtain rfl : n1 = j := by omega
        obtain ⟨W2, hW2⟩ : ∃ W2, W2 = wr := ⟨_, rfl⟩
        subst hW2
        have ct : W2.cell? ⟨w.heap.size + 1, 0, none⟩ = some (.slice A2 n2 c2) := (blk_cell (blk_below HX2.out HB.out) 0).trans rfl
        clear hlt hj
        go_wp2
        go_loopw [5, 6, 45] (fun v la i wr => ∃ j : Nat, j ≤ n2 ∧ i = .int .i64 (j : Int) ∧ la = .int .i64 (lastp xs ys (n1 + j) : Int) ∧ Aside0 (∀ i, i < j → (bys ys i).length ≤ 300) ∧ Aside0 (Kd.R (Kd.int .u8) 5 wr w1.heap.size (fun _ => True) v (cat xs ys (n1 + j))) ∧ Aside0 (Below w1.heap.size w1 wr)) (fun _ _ i _ => n2 - (intOf i).toNat)
        case atStart => exact ⟨0, by omega, rfl, rfl, ⟨fun i hi => absurd hi (by omega)⟩, ⟨HO.out⟩, ⟨HB.out⟩⟩
        case round =>
          clear HO HB ct
          obtain ⟨j, hj, rfl, rfl, HY, HO, HB⟩ := hrel
          obtain ⟨A5, c5, rfl⟩ := Kd.R_slice HO.out
          by_cases hlt : j < n2
          · have u3 : decide ((j : Int) < (n2 : Int)) = true := decide_eq_true (by omega)
            have u4 : decide (j < n2) = true := decide_eq_true hlt
            have HLT := Aside0.mk hlt
            obtain ⟨ad, A3, c3, e, hx, hc3, hC3⟩ := row_at HC2.out (by rw [HN2.out]; exact hlt)
            cases e
            have hx1 := pw_cell_below (below_step HB1.out HB.out) hx
            have HC3 := Aside0.mk (Kd.C_below hC3 (below_step HB1.out HB.out))
            have HL3 := Aside0.mk hc3
            have p1 : (0 ≤ (j : Int)) = True := eq_true (by omega)
            have p2 : ((j : Int) < (n2 : Int)) = True := eq_true (by omega)
            have hmax : (j : Int) + 1 ≤ 9223372036854775807 := by omega
            clear hx hc3 hC3
            by_cases h300 : 300 < (bys ys j).length
            · have q1 : decide ((300 : Int) < ((bys ys j).length : Int)) = true := decide_eq_true (by omega)
              have q2 : decide (300 < (bys ys j).length) = true := decide_eq_true h300
              clear hlt hj h300
              go_wp2
              go_ret
              exact ⟨by first | rfl | simp, below_step HB1.out HB.out⟩
            · have q1 : decide ((300 : Int) < ((bys ys j).length : Int)) = false := decide_eq_false (by omega)
              have q2 : decide (300 < (bys ys j).length) = false := decide_eq_false h300
              have HY1 := Aside0.mk (show ∀ i, i < j + 1 → (bys ys i).length ≤ 300 from fun i hi => by
                by_cases h : i = j
                · subst h; omega
                · exact HY.out i (by omega))
              have hpb := piece_bys (xs := xs) ys j
              rw [HN1.out] at hpb
              have HCS := Aside0.mk (show cat xs ys (n1 + (j + 1)) = cat xs ys (n1 + j) ++ (uv (bys ys j).length ++ bys ys j) from by rw [← Nat.add_assoc, cat, hpb])
              have HPS := Aside0.mk (pos_small HF.out (n1 + (j + 1)) (fun i hi => HY1.out i (by have := HN1.out; omega)))
              have HLP := Aside0.mk (show lastp xs ys (n1 + (j + 1)) = _ from lastp_succ xs ys (n1 + j))
              have HPE := Aside0.mk (show pos xs ys (n1 + (j + 1)) = (cat xs ys (n1 + j)).length + (uv (bys ys j).length ++ bys ys j).length from by unfold pos; rw [HCS.out, List.length_append])
              have HI := Aside0.mk (wbytes_calls (A := A3) (c := c3) (l := bys ys j) (by omega) HL3.out _ HC3.out)
              clear hlt hj h300 hpb
              obtain ⟨pc, hpc⟩ : ∃ pc, uv (bys ys j).length ++ bys ys j = pc := ⟨_, rfl⟩
              rw [hpc] at HI HCS HPE
              clear hpc
              generalize bys ys j = y at *
              go_wp2_with fail
              refine HI.out.mono ?_
              rintro e w2 ⟨v2, rfl, hv2, b2⟩
              have HV2 := Aside0.mk hv2
              have HO2 := Aside0.mk (Kd.R_below HO.out b2)
              have HB2 := Aside0.mk (below_step HB.out b2)
              clear hv2 b2 HO HB HI HC3
              obtain ⟨A6, c6, rfl⟩ := Kd.R_slice HV2.out
              go_wp2_with (at_builtin; refine Kd.R_append_rows (Kd.int .u8) (w0 := w1) w1.heap.size rfl (.tmp 54) (.tmp 56) 22 5 (.int .u8 0) 1 rfl Try.underlying22 infoB rfl (by decide) (by omega) _ (cat xs ys (n1 + j)) pc A6 _ c6 (fun _ => True) (fun _ => False) rfl rfl ?aO ?aR (fun _ _ h => h) (fun _ h => h.elim) ?aF ?aB ?aS ?aL ?_; (case aO => exact HO2.out); (case aR => exact (Kd.R_reads' HV2.out).2.2); (case aF => exact fun _ _ => trivial); (case aB => exact HB2.out); (case aS => exact HB2.out.size); (case aL => have := HPS.out; have := HPE.out; have := HLT.out; omega); intro v3 w3 ho3 hb3 hg3 hat3; have HO3 := Aside0.mk ho3; have HB3 := Aside0.mk hb3; clear ho3 hb3 hg3 hat3)
              go_roundw
              case rel => exact ⟨j + 1, HLT.out, by go_num, by rw [HLP.out], ⟨HY1.out⟩, ⟨by rw [HCS.out]; exact HO3.out⟩, ⟨HB3.out⟩⟩
              case measure => have := HLT.out; simp [intOf]; omega
          · have u3 : decide ((j : Int) < (n2 : Int)) = false := decide_eq_false (by omega)
            have u4 : decide (j < n2) = false := decide_eq_false hlt
            obtain rfl : n2 = j := by omega
            obtain ⟨w3, hw3⟩ : ∃ w3, w3 = wr := ⟨_, rfl⟩
            subst hw3
            have hred := Kd.R_reads' HO.out
            have HR := Aside0.mk hred.2.2
            have HRC := Aside0.mk hred.2.1
            have hps := pos_small HF.out (n1 + n2) (fun i hi => HY.out i (by have := HN1.out; omega))
            unfold pos at hps
            have HX3 := Aside0.mk (blk_below HX1.out HB.out)
            have HX4 := Aside0.mk (blk_below HX2.out HB.out)
            have HW3 := Aside0.mk (below_step HB1.out HB.out)
            have hg : (w3.alloc (.cells #[.bool true] 4)).heap[w3.heap.size]? = some (.cells #[.bool true] 4 (0, 0)) := heap_alloc_new w3 _
            have hst := stands_all xs ys
            rw [HN1.out, HN2.out] at hst
            have HST := Aside0.mk hst
            have HRUN := Aside0.mk (back_run (A := A5) (c := c5) (below_alloc (Below.refl _ _) (.cells #[.bool true] 4)) HR.out HRC.out (cat_bytes HF.out _) (by omega) HF.out HST.out HN1.out HN2.out ⟨b100, b30⟩ HY.out (Kd.C_below HC1.out HW3.out) (Kd.C_below HC2.out HW3.out) HX3.out HX4.out hg (fun _ => rfl))
            rw [if_pos rfl] at HRUN
            have hmf := hmf
            have HPS := Aside0.mk hps
            clear hlt hj hred HO HB hst hg hps
            go_wp2_with fail
            refine HRUN.out.mono ?_
            rintro e w5 ⟨rfl, b5, hg5⟩
            have HX5 := Aside0.mk (blk_below HX3.out b5)
            have HB5 := Aside0.mk b5
            have HG5 := Aside0.mk hg5
            have dg := (blk_cell hg5 0).trans rfl
            simp only [List.getElem?_toArray, List.getElem?_cons_zero] at dg
            have HPN := Aside0.mk (show pos xs ys (n1 + n2) = (cat xs ys (n1 + n2)).length from rfl)
            obtain ⟨T, hT⟩ : ∃ T, (cat xs ys (n1 + n2)).length = T := ⟨_, rfl⟩
            have HT := Aside0.mk hT
            rw [HPN.out, hT]
            rw [hT] at HRC
            have q0 : ((T : Int) != (T : Int)) = false := by simp
            have q1 : ((T : Int) == (T : Int)) = true := by simp
            clear HRUN b5 hg5 hT
            by_cases hz : T = 0
            · subst hz
              go_wp2
              go_ret
              exact ⟨by first | rfl | simp, below_step HW3.out HB5.out⟩
            · have z1 : ((T : Int) == 0) = false := beq_eq_false_iff_ne.mpr (by omega)
              have hTp : 1 ≤ (T : Int) := by omega
              have hTm : (T : Int) ≤ 100000 := by have := HPS.out; have := HT.out; omega
              obtain ⟨M, hM⟩ : ∃ M, n1 + n2 = M + 1 := ⟨n1 + n2 - 1, by
                have : n1 + n2 ≠ 0 := fun h => by
                  have := HT.out
                  rw [h] at this
                  exact hz (by rw [← this]; rfl)
                omega⟩
              have HM := Aside0.mk hM
              obtain ⟨i0, hi0, _, hsz0, _⟩ := info_parts infoB
              have hcut := cut_to (P := Try.prog) 22 5 .i64 Try.underlying22 hi0 A5 T c5 ((T : Int) - 1) (by omega) (by omega) HRC.out
              obtain ⟨T1, hT1⟩ : ∃ T1, ((T : Int) - 1).toNat = T1 := ⟨_, rfl⟩
              rw [hT1] at hcut
              have hTT : T = T1 + 1 := by omega
              have hB2 : ((cat xs ys (n1 + n2)).take T1).length = T1 := by rw [List.length_take, HT.out]; omega
              have hstc := stands_cut xs ys (K := M) (by rw [HN1.out, HN2.out]; exact hM)
              rw [← hM, HT.out, show T - 1 = T1 by omega] at hstc
              have HRUN2 := Aside0.mk (back_run (W := w5) (A := A5) (c := c5) (B := (cat xs ys (n1 + n2)).take T1) HB5.out (Kd.C_take HR.out (by rw [HT.out]; omega)) (by rw [hB2]; have := HRC.out; omega) ((cat_bytes HF.out _).take _) (by rw [hB2]; omega) HF.out hstc HN1.out HN2.out ⟨b100, b30⟩ HY.out (Kd.C_below HC1.out HW3.out) (Kd.C_below HC2.out HW3.out) HX3.out HX4.out HG5.out (fun h => by omega))
              rw [hB2, if_neg (by omega)] at HRUN2
              have HLL := Aside0.mk (show lastp xs ys (n1 + n2) = pos xs ys M from by rw [hM]; unfold lastp; rw [if_neg (by omega)]; rfl)
              rw [HLL.out]
              have q2 : ((pos xs ys M : Int) == (pos xs ys M : Int)) = true := by simp
              clear hz hM hi0 hsz0 hT1 hTT hB2 hstc
              go_wp2_with fail
              refine HRUN2.out.mono ?_
              rintro e w6 ⟨rfl, b6, hg6⟩
              go_wp2
              go_ret
              exact ⟨by first | rfl | simp, below_step HW3.out b6⟩
end Go.Proofs.Ytamnnaadnjkdiaa.Rb
