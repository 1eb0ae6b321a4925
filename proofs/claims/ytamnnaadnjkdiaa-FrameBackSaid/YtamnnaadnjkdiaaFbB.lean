import Derived.Test.YtamnnaadnjkdiaaFbA
import Derived.Outline
import Derived.BigQuiet
import Derived.Deep.QuietTactic
import Derived.RegionTactic
import Derived.Deep.LoopGhost
/-! FrameBack: the walk. -/
namespace Go.Proofs.Ytamnnaadnjkdiaa.Fb
open Go.RowKit Go.Proofs.YtamnnaadnjkdiaaW.PrintWords Go.Proofs.YtamnnaadnjkdiaaW.PrintLast Go.Proofs.YtamnnaadnjkdiaaW.PrintMore Go.Proofs.Ytamnnaadnjkdiaa.Wire Go.Proofs.Ytamnnaadnjkdiaa.Crc Go.Proofs.Ytamnnaadnjkdiaa.Frame
set_option linter.unusedVariables false
set_option linter.unusedSimpArgs false
set_option maxRecDepth 100000
set_option maxHeartbeats 4000000 in
theorem frameBack_big (A0 A1 : Option Addr) (n0 c0 n1 c1 : Nat) (w : World) (hbig : 40 < n0 ∨ 100 < n1) :
    Calls Try.prog 13 #[.slice A0 n0 c0, .slice A1 n1 c1] w fun e w' => e = .returned (.bool true) ∧ Below w.heap.size w w' := by
  by_cases hb : 40 < n0
  · have t1 : decide ((40 : Int) < (n0 : Int)) = true := decide_eq_true (by omega)
    have t2 : decide (40 < n0) = true := decide_eq_true hb
    clear hbig hb
    go_enter Try.func13, Try.ntmps13
    go_wp2_with fail
    refine (alive_calls _).mono ?_
    rintro e w1 ⟨rfl, b1⟩
    go_wp2_with fail
    refine (alive_calls _).mono ?_
    rintro e w2 ⟨rfl, b2⟩
    go_wp2
    go_ret
    exact ⟨rfl, below_step b1 b2⟩
  · have t1 : decide ((40 : Int) < (n0 : Int)) = false := decide_eq_false (by omega)
    have t2 : decide (40 < n0) = false := decide_eq_false hb
    have t3 : decide ((100 : Int) < (n1 : Int)) = true := decide_eq_true (by omega)
    have t4 : decide (100 < n1) = true := decide_eq_true (by omega)
    clear hbig hb
    go_enter Try.func13, Try.ntmps13
    go_wp2_with fail
    refine (alive_calls _).mono ?_
    rintro e w1 ⟨rfl, b1⟩
    go_wp2_with fail
    refine (alive_calls _).mono ?_
    rintro e w2 ⟨rfl, b2⟩
    go_wp2
    go_ret
    exact ⟨rfl, below_step b1 b2⟩
set_option maxHeartbeats 16000000 in
theorem frameBack_calls (A0 : Option Addr) (c0 : Nat) (ks : List Int) (A1 : Option Addr) (c1 : Nat) (p : List Int) (w : World) (hr0 : Kd.C (Kd.int .u8) w A0 ks.length ks) (hc0 : ks.length ≤ c0) (hk : Bytes ks) (hr1 : Kd.C (Kd.int .u8) w A1 p.length p) (hc1 : p.length ≤ c1) (hp : Bytes p) :
    Calls Try.prog 13 #[.slice A0 ks.length c0, .slice A1 p.length c1] w fun e w' => e = .returned (.bool true) ∧ Below w.heap.size w w' := by
  by_cases hbig : 40 < ks.length ∨ 100 < p.length
  · exact frameBack_big A0 A1 ks.length c0 p.length c1 w hbig
  · obtain ⟨n, hn⟩ : ∃ n, ks.length = n := ⟨_, rfl⟩
    obtain ⟨m, hm⟩ : ∃ m, p.length = m := ⟨_, rfl⟩
    have HN := Aside0.mk hn
    have HM := Aside0.mk hm
    have HR0 := Aside0.mk hr0
    have HR1 := Aside0.mk hr1
    have HK := Aside0.mk hk
    have HP := Aside0.mk hp
    rw [hn, hm] at hbig
    have b40 : n ≤ 40 := by omega
    have b100 : m ≤ 100 := by omega
    have HPL := Aside0.mk (show p.length ≤ 100 by omega)
    have HCM := Aside0.mk hc1
    rw [hm] at hc1 HCM
    rw [hn, hm]
    have t1 : decide ((40 : Int) < (n : Int)) = false := decide_eq_false (by omega)
    have t2 : decide (40 < n) = false := decide_eq_false (by omega)
    have t3 : decide ((100 : Int) < (m : Int)) = false := decide_eq_false (by omega)
    have t4 : decide (100 < m) = false := decide_eq_false (by omega)
    clear hbig hn hm hr0 hr1 hk hp hc0
    go_enter Try.func13, Try.ntmps13
    go_wp2_with fail
    refine (alive_calls _).mono ?_
    rintro e w1 ⟨rfl, b1⟩
    have HB1 := Aside0.mk b1
    clear b1
    go_wp2_with fail
    clear t1 t2 t3 t4
    go_loopw [5, 6, 34] (fun v u i wr => ∃ j : Nat, j ≤ n ∧ i = .int .i64 (j : Int) ∧ Aside0 (Kd.R (Kd.int .u8) 5 wr w1.heap.size (fun _ => True) v (cat (part ks p) j)) ∧ Aside0 (Kd.R (Kd.int .i64) 3 wr w1.heap.size (fun _ => True) u (ats (part ks p) j)) ∧ Aside0 (Below w1.heap.size w1 wr)) (fun _ _ i _ => n - (intOf i).toNat)
    case atStart => exact ⟨0, by omega, rfl, ⟨Kd.R_nil _ _ _ _ _⟩, ⟨Kd.R_nil _ _ _ _ _⟩, ⟨Below.refl _ _⟩⟩
    case round =>
      obtain ⟨j, hj, rfl, HO, HT, HB⟩ := hrel
      obtain ⟨A5, c5, rfl⟩ := Kd.R_slice HO.out
      obtain ⟨A6, c6, rfl⟩ := Kd.R_slice HT.out
      by_cases hlt : j < n
      · have u1 : decide ((j : Int) < (n : Int)) = true := decide_eq_true (by omega)
        have u2 : decide (j < n) = true := decide_eq_true hlt
        have HLT := Aside0.mk hlt
        obtain ⟨ad, e, hx⟩ := Kd.at_int (Kd.C_below HR0.out (below_step HB1.out HB.out)) (j : Int) (by omega) (by have := HN.out; omega)
        cases e
        rw [Int.toNat_natCast] at hx
        have p1 : (0 ≤ (j : Int)) = True := eq_true (by omega)
        have p2 : ((j : Int) < (n : Int)) = True := eq_true (by omega)
        have hmax : (j : Int) + 1 ≤ 9223372036854775807 := by omega
        have HX := Aside0.mk (HK.out.rd_ j)
        have HCS := Aside0.mk (show cat (part ks p) (j + 1) = cat (part ks p) j ++ fput (rd ks (j : Int) % 3) (p.take j) from rfl)
        have HAS := Aside0.mk (ats_succ (part ks p) j)
        have HAL := Aside0.mk (ats_len (part ks p) j)
        have HPS := Aside0.mk (part_pos ks HPL.out (j + 1))
        have HPE := Aside0.mk (show pos (part ks p) (j + 1) = (cat (part ks p) j).length + (fput (rd ks (j : Int) % 3) (p.take j)).length from by unfold pos; rw [HCS.out, List.length_append])
        have HRT := Aside0.mk (Kd.C_below HR1.out (below_step HB1.out HB.out))
        have hxx := HX.out
        by_cases hjm : j ≤ m
        all_goals
          first
          | (have HW := Aside0.mk (write_calls (A := A1) (c := c1) (n := j) (l := p.take j) (kd := rd ks (j : Int) % 3) (by rw [List.length_take, HM.out]; omega) (by omega) (HP.out.take _) (by rw [List.length_take]; have := HPL.out; omega) (by rw [List.length_take]; have := HM.out; omega) wr (Kd.C_take HRT.out (by rw [HM.out]; omega))))
          | (have HW := Aside0.mk (write_calls (A := A1) (c := c1) (n := m) (l := p.take j) (kd := rd ks (j : Int) % 3) (by rw [List.length_take, HM.out]; omega) (by omega) (HP.out.take _) (by rw [List.length_take]; have := HPL.out; omega) (by rw [List.length_take]; have := HM.out; omega) wr (by rw [List.take_of_length_le (by have := HM.out; omega)]; exact HRT.out)))
          obtain ⟨x, hxe⟩ : ∃ x, rd ks (j : Int) = x := ⟨_, rfl⟩
          rw [hxe] at hx HX HCS HPE HW hxx
          obtain ⟨f, hf⟩ : ∃ f, fput (x % 3) (p.take j) = f := ⟨_, rfl⟩
          rw [hf] at HCS HPE HW
          have hx0 : 0 ≤ x := hxx.1
          have hx1 : x < 256 := hxx.2
          clear hlt hj hxe hf hxx
          go_wp2_with fail
          refine HW.out.mono ?_
          rintro e w2 ⟨v2, rfl, hv2, b2⟩
          have HV2 := Aside0.mk hv2
          have HO2 := Aside0.mk (Kd.R_below HO.out b2)
          have HT2 := Aside0.mk (Kd.R_below HT.out b2)
          have HB2 := Aside0.mk (below_step HB.out b2)
          clear hv2 b2 HO HT HB HW HRT
          obtain ⟨A7, c7, rfl⟩ := Kd.R_slice HV2.out
          go_wp2_with (first | ((with_reducible refine gate_builtin (b := .append) (xs := #[.tmp 54, .tmp 57]) rfl ?_); (try (refine gate_guard (by rfl) ?_; dsimp only)); at_builtin; refine Kd.R_append (Kd.int .i64) (w0 := w1) w1.heap.size rfl (.tmp 54) (.tmp 57) 54 3 (.int .i64 0) 8 rfl Try.underlying54 info64 rfl (by decide) (by omega) _ (ats (part ks p) j) ((cat (part ks p) j).length : Int) [.int .i64 ((cat (part ks p) j).length : Int)] (fun _ => True) (fun _ => False) rfl rfl ?aP (fun _ hk => hk.elim) ?aF ?aO ?aB ?aS ?aL ?_; (case aP => exact rfl); (case aB => exact HB2.out); (case aF => exact (fun _ _ => trivial)); (case aO => exact HT2.out); (case aS => exact HB2.out.size); (case aL => rw [HAL.out]; have := HLT.out; omega); intro v3 w3 ht3 hb3 hg3 hat3; have HT3 := Aside0.mk ht3; have HB3 := Aside0.mk hb3; have HO3 := Aside0.mk (Kd.R_mono (Kd.R_grown (Kd.R_apart' HO2.out (Kd.R_typed HT2.out) (by decide)) hg3 (fun k hk => hk.2)) (fun _ _ => trivial)); have HV3 := Aside0.mk (Kd.R_mono (Kd.R_grown (Kd.R_apart' HV2.out (Kd.R_typed HT2.out) (by decide)) hg3 (fun k hk => hk.2)) (fun _ _ => trivial)); clear ht3 hb3 hg3 hat3) | ((with_reducible refine gate_builtin (b := .append) (xs := #[.tmp 59, .tmp 60]) rfl ?_); (try (refine gate_guard (by rfl) ?_; dsimp only)); at_builtin; refine Kd.R_append_rows (Kd.int .u8) (w0 := w1) w1.heap.size rfl (.tmp 59) (.tmp 60) 22 5 (.int .u8 0) 1 rfl Try.underlying22 info8 rfl (by decide) (by omega) _ (cat (part ks p) j) f A7 _ c7 (fun _ => True) (fun _ => False) rfl rfl ?aO ?aR (fun _ _ h => h) (fun _ h => h.elim) ?aF ?aB ?aS ?aL ?_; (case aO => exact HO3.out); (case aR => exact (Kd.R_reads' HV3.out).2.2); (case aF => exact fun _ _ => trivial); (case aB => exact HB3.out); (case aS => exact HB3.out.size); (case aL => have := HPS.out; have := HPE.out; have := HLT.out; omega); intro v4 w4 ho4 hb4 hg4 hat4; have HO4 := Aside0.mk ho4; have HB4 := Aside0.mk hb4; have HT4 := Aside0.mk (Kd.R_mono (Kd.R_grown (Kd.R_apart' HT3.out (Kd.R_typed HO3.out) (by decide)) hg4 (fun k hk => hk.2)) (fun _ _ => trivial)); clear ho4 hb4 hg4 hat4))
          go_roundw
          case rel => exact ⟨j + 1, HLT.out, by go_num, ⟨by rw [HCS.out]; exact HO4.out⟩, ⟨by rw [HAS.out]; exact HT4.out⟩, ⟨HB4.out⟩⟩
          case measure => have := HLT.out; simp [intOf]; omega
      · have u1 : decide ((j : Int) < (n : Int)) = false := decide_eq_false (by omega)
        have u2 : decide (j < n) = false := decide_eq_false hlt
        obtain rfl : n = j := by omega
        obtain ⟨w3, hw3⟩ : ∃ w3, w3 = wr := ⟨_, rfl⟩
        subst hw3
        have hred := Kd.R_reads' HO.out
        have HR := Aside0.mk hred.2.2
        have HRC := Aside0.mk hred.2.1
        have HTR := Aside0.mk (Kd.R_reads' HT.out).2.2
        have HW3 := Aside0.mk (below_step HB1.out HB.out)
        have hps := part_pos ks HPL.out n
        have HPS := Aside0.mk hps
        unfold pos at hps
        have HALL := Aside0.mk (all_calls (A := A5) (c := c5) rfl (cat_bytes (part_fine HK.out HP.out HPL.out n)) (by omega) HRC.out w3 HR.out (all_whole HK.out HP.out HPL.out n))
        have HPN := Aside0.mk (show (cat (part ks p) n).length ≤ 8000 by omega)
        have HAT := Aside0.mk (ats_len (part ks p) n)
        have hfl : (((List.range' 0 n).map (at3 (part ks p)))).length = n := by rw [List.length_map, List.length_range']
        rw [hfl] at HALL
        obtain ⟨T, hT⟩ : ∃ T, (cat (part ks p) n).length = T := ⟨_, rfl⟩
        have HTT := Aside0.mk hT
        rw [hT] at HALL HRC
        rw [hT, HAT.out]
        have q0 : ((T : Int) != (T : Int)) = false := by simp
        have q1 : ((n : Int) != (n : Int)) = false := by simp
        clear hlt hj hred HO HT hps hfl hT
        go_wp2_with fail
        refine HALL.out.mono ?_
        rintro e w4 ⟨A8, c8, rfl, hC8, b4⟩
        have HC8 := Aside0.mk hC8
        have HB4 := Aside0.mk (below_step HW3.out b4)
        have HTR4 := Aside0.mk (Kd.C_below HTR.out b4)
        have HR4 := Aside0.mk (Kd.C_below HR.out b4)
        clear hC8 b4 HALL HB
        go_wp2_with fail
        go_loopw [86] (fun i wr => ∃ j : Nat, j ≤ n ∧ i = .int .i64 (j : Int) ∧ Aside0 (Below w4.heap.size w4 wr)) (fun i _ => n - (intOf i).toNat)
        case atStart => exact ⟨0, by omega, rfl, ⟨Below.refl _ _⟩⟩
        case round =>
          obtain ⟨j, hj, rfl, HB⟩ := hrel
          by_cases hlt : j < n
          · have u3 : decide ((j : Int) < (n : Int)) = true := decide_eq_true (by omega)
            have u4 : decide (j < n) = true := decide_eq_true hlt
            have HLT := Aside0.mk hlt
            have p1 : (0 ≤ (j : Int)) = True := eq_true (by omega)
            have p2 : ((j : Int) < (n : Int)) = True := eq_true (by omega)
            have hmax : (j : Int) + 1 ≤ 9223372036854775807 := by omega
            obtain ⟨ad, A9, c9, e, f0, f1, f2, g0, g1⟩ := frame_at (Kd.C_below HC8.out HB.out) hlt
            subst e
            have hB4 := below_step HB4.out HB.out
            obtain ⟨ad2, e, hx⟩ := Kd.at_int (Kd.C_below HR0.out hB4) (j : Int) (by omega) (by have := HN.out; omega)
            cases e
            obtain ⟨ad3, e, hy⟩ := Kd.at_int (Kd.C_below HTR4.out HB.out) (j : Int) (by omega) (by have := HAT.out; omega)
            cases e
            rw [Int.toNat_natCast] at hx hy
            rw [ats_get _ _ _ hlt] at hy
            have hxx := HK.out.rd_ j
            have HRT := Aside0.mk (Kd.C_below HR1.out hB4)
            have HBX := Aside0.mk HB.out
            clear HB
            have hx0 : 0 ≤ rd ks (j : Int) := hxx.1
            have hx1 : rd ks (j : Int) < 256 := hxx.2
            have HQL := Aside0.mk (show (p.take j).length = min j m from by rw [List.length_take, HM.out])
            have HTK := Aside0.mk (Kd.C_take HRT.out (m := (p.take j).length) (by rw [List.length_take]; omega))
            rw [show p.take (p.take j).length = p.take j from by
              rw [List.length_take]
              rcases Nat.le_total j p.length with h | h
              · rw [Nat.min_eq_left h]
              · rw [Nat.min_eq_right h, List.take_of_length_le h, List.take_length]] at HTK
            obtain ⟨q, hq⟩ : ∃ q, p.take j = q := ⟨_, rfl⟩
            rw [hq] at f1 g0 g1 HQL HTK
            obtain ⟨px, hpx⟩ : ∃ px, pos (part ks p) j = px := ⟨_, rfl⟩
            rw [hpx] at f2 hy
            generalize rd ks (j : Int) = x at *
            have s0 : ((x % 3) != (x % 3)) = false := by simp
            have s1 : ((strOfNums q).toList != (strOfNums q).toList) = false := by simp
            have s2 : ((strOfNums q).toList == (strOfNums q).toList) = true := by simp
            have s3 : ((px : Int) != (px : Int)) = false := by simp
            have HG := Aside0.mk g1
            clear hlt hj g1 g0 hxx hq hpx
            by_cases hjm : j ≤ m
            all_goals
              obtain ⟨lq, hlq, hql⟩ : ∃ lq, (if j ≤ m then j else m) = lq ∧ q.length = lq := ⟨_, rfl, by have := HQL.out; split <;> omega⟩
              rw [hql] at f1 HTK HG
              obtain ⟨OB, hOB⟩ : ∃ OB, Obj.cells #[.int .i64 (x % 3), .slice A9 lq c9, .int .i64 (px : Int)] 80 = OB := ⟨_, rfl⟩
              have HB9 := Aside0.mk (below_alloc (Below.refl wr.heap.size wr) OB)
              have hbx : (wr.alloc OB).heap[wr.heap.size]? = some (.cells #[.int .i64 (x % 3), .slice A9 lq c9, .int .i64 (px : Int)] 80 (0, 0)) := by rw [← hOB]; exact heap_alloc_new wr _
              have HBXX := Aside0.mk hbx
              first | rw [if_pos hjm] at hlq | rw [if_neg hjm] at hlq
              subst hlq
              have HOB := Aside0.mk hOB
              clear hql hbx hOB
              go_wp2_with fail
              rw [HOB.out]
              have hbx := HBXX.out
              obtain ⟨W, hW⟩ : ∃ W, wr.alloc OB = W := ⟨_, rfl⟩
              rw [hW] at HB9 hbx ⊢
              have e0 : W.cell? ⟨wr.heap.size, 0, none⟩ = some (.int .i64 (x % 3)) := (blk_cell hbx 0).trans rfl
              have e1 : W.cell? ⟨wr.heap.size, 1, none⟩ = some (.slice A9 _ c9) := (blk_cell hbx 1).trans rfl
              have e2 : W.cell? ⟨wr.heap.size, 2, none⟩ = some (.int .i64 (px : Int)) := (blk_cell hbx 2).trans rfl
              have hx' := pw_cell_below HB9.out hx
              have hy' := pw_cell_below HB9.out hy
              have hcv1 := fun m => Kd.C_string (P := Try.prog) (A := A9) (c := c9) Try.underlying22 Try.underlying5 Try.underlying9 (Kd.C_drewN (Kd.C_below HG.out HB9.out) m)
              have hcv2 := fun m => Kd.C_string (P := Try.prog) (A := A1) (c := c1) Try.underlying22 Try.underlying5 Try.underlying9 (Kd.C_drewN (Kd.C_below HTK.out HB9.out) m)
              clear hW hbx f0 f1 f2 hx hy
              go_quiet (fail)
              go_wp2_with fail
              go_roundw
              case rel => exact ⟨j + 1, HLT.out, by go_num, ⟨pw_below_drewN (below_step HBX.out HB9.out) _⟩⟩
              case measure => have := HLT.out; simp [intOf]; omega
          · have u3 : decide ((j : Int) < (n : Int)) = false := decide_eq_false (by omega)
            have u4 : decide (j < n) = false := decide_eq_false hlt
            obtain rfl : n = j := by omega
            clear hlt hj q0 q1
            by_cases hz : T = 0
            · subst hz
              go_wp2
              go_ret
              exact ⟨by first | rfl | simp, below_step HB4.out HB.out⟩
            · have z1 : ((T : Int) == 0) = false := beq_eq_false_iff_ne.mpr (by omega)
              have hTp : 1 ≤ (T : Int) := by omega
              have hTm : (T : Int) ≤ 8000 := by have := HPN.out; have := HTT.out; omega
              obtain ⟨M, hM⟩ : ∃ M, n = M + 1 := ⟨n - 1, by
                have : n ≠ 0 := fun h => by
                  have := HTT.out
                  rw [h] at this
                  exact hz (by rw [← this]; rfl)
                omega⟩
              obtain ⟨i0, hi0, _, hsz0, _⟩ := info_parts info8
              have hcut := cut_to (P := Try.prog) 22 5 .i64 Try.underlying22 hi0 A5 T c5 ((T : Int) - 1) (by omega) (by omega) HRC.out
              obtain ⟨T1, hT1⟩ : ∃ T1, ((T : Int) - 1).toNat = T1 := ⟨_, rfl⟩
              rw [hT1] at hcut
              have hTT : T = T1 + 1 := by omega
              have hB2 : ((cat (part ks p) n).take T1).length = T1 := by rw [List.length_take, HTT.out]; omega
              have hac := all_cut HK.out HP.out HPL.out M
              rw [← hM, HTT.out, show T - 1 = T1 by omega] at hac
              have hfl : ((List.range' 0 M).map (at3 (part ks p))).length = M := by rw [List.length_map, List.length_range']
              have HALL := Aside0.mk (all_calls (A := A5) (c := c5) hB2 ((cat_bytes (part_fine HK.out HP.out HPL.out n)).take _) (by rw [hB2]; omega) (by rw [hB2]; have := HRC.out; omega) wr (Kd.C_take (Kd.C_below HR4.out HB.out) (by rw [HTT.out]; omega)) hac)
              rw [hfl] at HALL
              have HTRX := Aside0.mk (Kd.C_below HTR4.out HB.out)
              have HAG := Aside0.mk (ats_get (part ks p) n M (by omega))
              have hMn : (n : Int) - 1 = (M : Int) := by omega
              have HMn := Aside0.mk hMn
              obtain ⟨px, hpx⟩ : ∃ px, pos (part ks p) M = px := ⟨_, rfl⟩
              rw [hpx] at HALL HAG
              have s3 : ((px : Int) == (px : Int)) = true := by simp
              have s4 : ((M : Int) == (M : Int)) = true := by simp
              have HWB := Aside0.mk (below_step HB4.out HB.out)
              have n1 : 1 ≤ n := by omega
              clear hz hM hi0 hsz0 hT1 hTT hB2 hac hfl hMn hpx HB
              go_wp2_with fail
              refine HALL.out.mono ?_
              rintro e w6 ⟨A10, c10, rfl, hC10, b6⟩
              obtain ⟨ad3, e, hy⟩ := Kd.at_int (Kd.C_below HTRX.out b6) (M : Int) (by omega) (by have := HAT.out; have := HMn.out; omega)
              cases e
              rw [Int.toNat_natCast, HAG.out] at hy
              have hMn := HMn.out
              have p1 : (0 ≤ (M : Int)) = True := eq_true (by omega)
              have p2 : ((M : Int) < (n : Int)) = True := eq_true (by omega)
              have HFIN := Aside0.mk (below_step HWB.out b6)
              clear hC10 b6
              go_wp2
              go_ret
              exact ⟨by first | rfl | simp, HFIN.out⟩
end Go.Proofs.Ytamnnaadnjkdiaa.Fb
