import Derived.Test.YtmoopdhnnpjcfaaDoorWr1
/-! Column: the document's Write, of kind 5. -/
namespace Go.Proofs.YtmoopdhnnpjcfaaDoor.Co
open Go.RowKit Go.Proofs.YtmoopdhnnpjcfaaDoorW.PrintWords Go.Proofs.YtmoopdhnnpjcfaaDoorW.PrintLast Go.Proofs.YtmoopdhnnpjcfaaDoorW.PrintMore Go.Proofs.YtmoopdhnnpjcfaaDoor.Wire Go.Proofs.YtmoopdhnnpjcfaaDoor.PCo Go.Proofs.YtmoopdhnnpjcfaaDoor.CoG
set_option linter.unusedVariables false
set_option linter.unusedSimpArgs false
set_option maxRecDepth 100000
set_option maxHeartbeats 8000000 in
theorem rwrite_5 {A : Option Addr} {c : Nat} {l : List S47} (w : World) (hr : Kd.C k47 w A l.length l) (hlen : l.length ≤ 1048576) (htx : ∀ i, (tx l i).size ≤ 140737488351232) (hnum : ∀ i, 0 ≤ nm l i ∧ nm l i < 18446744073709551616) :
    Calls Tryd.prog 23 #[.int .i64 5, .slice A l.length c] w fun e w' => ∃ v, e = .returned (.tuple #[v, .int .i64 (wErr 5 l)]) ∧ Kd.R (Kd.int .u8) 5 w' w.heap.size (fun _ => True) v (wBytes 5 l) ∧ Below w.heap.size w w' := by
  have HR := Aside0.mk hr
  have HTX := Aside0.mk htx
  have HNM := Aside0.mk hnum
  obtain ⟨n, hn⟩ : ∃ n, l.length = n := ⟨_, rfl⟩
  have HN := Aside0.mk hn
  have hnb : n ≤ 1048576 := by omega
  rw [hn]
  have HWE := Aside0.mk (show wErr 5 l = fe 5 l n from by rw [wErr, if_pos (by decide), hn])
  have HWO := Aside0.mk (show wrote 5 l = pnum l n from by rw [← hn]; rfl)
  clear hr hn htx hnum hlen
  go_enter Tryd.func23, Tryd.ntmps23
  go_wp2_with fail
  have HX0 := Aside0.mk (heap_alloc_new w (.cells #[.int .u64 0, .string ⟨#[]⟩] 47))
  have HB0 := Aside0.mk (below_alloc (Below.refl w.heap.size w) (.cells #[.int .u64 0, .string ⟨#[]⟩] 47))
  go_loopw [6, 8] (fun v i wr => ∃ j : Nat, j ≤ n ∧ i = .int .i64 (j : Int) ∧ Aside0 (fe 5 l j = 0) ∧ Aside0 (Kd.R (Kd.int .u8) 5 wr w.heap.size (fun _ => True) v (pnum l j)) ∧ Aside0 (Below w.heap.size w wr) ∧ Aside0 (wr.heap[w.heap.size]? = some (.cells #[.int .u64 (lnum l j), .string (lastT l j)] 47 (0, 0)))) (fun _ i _ => n - (intOf i).toNat)
  case atStart => exact ⟨0, by omega, rfl, ⟨rfl⟩, ⟨Kd.R_nil _ _ _ _ _⟩, ⟨HB0.out⟩, ⟨HX0.out⟩⟩
  case round =>
    obtain ⟨j, hj, rfl, HF, HO, HB, HL⟩ := hrel
    clear HX0 HB0
    obtain ⟨A5, c5, rfl⟩ := Kd.R_slice HO.out
    by_cases hlt : j < n
    · have u1 : decide ((j : Int) < (n : Int)) = true := decide_eq_true (by omega)
      have u2 : decide (j < n) = true := decide_eq_true hlt
      have HLT := Aside0.mk hlt
      obtain ⟨ad, e, h0, h1⟩ := at_T47 (Kd.C_below HR.out HB.out) (j : Int) (by omega) (by have := HN.out; omega)
      cases e
      rw [Int.toNat_natCast] at h0 h1
      have p1 : (0 ≤ (j : Int)) = True := eq_true (by omega)
      have p2 : ((j : Int) < (n : Int)) = True := eq_true (by omega)
      have hmax : (j : Int) + 1 ≤ 9223372036854775807 := by omega
      have HFE := Aside0.mk (show fe 5 l (j + 1) = chk 5 (nm l j) (tx l j) from by rw [fe, if_neg (by rw [HF.out]; decide)])
      have HLN := Aside0.mk (lnum_next l j)
      have HLT2 := Aside0.mk (lastT_next l j)
      have HST := Aside0.mk (HTX.out j)
      have HSN := Aside0.mk (HNM.out j)
      have HLE := Aside0.mk (pnum_len l (j + 1) (HNM.out 0))
      obtain ⟨s, hse⟩ : ∃ s, tx l j = s := ⟨_, rfl⟩
      obtain ⟨x, hne⟩ : ∃ x, nm l j = x := ⟨_, rfl⟩
      rw [show (rd_T47 l (j : Int)).f1 = s from hse] at h1
      rw [show (rd_T47 l (j : Int)).f0 = x from hne] at h0
      rw [hse] at HFE HST HLT2
      rw [hne] at HFE HSN HLN
      obtain ⟨ln, hln⟩ : ∃ ln, lnum l j = ln := ⟨_, rfl⟩
      obtain ⟨lt, hlt2⟩ : ∃ lt, lastT l j = lt := ⟨_, rfl⟩
      rw [hln, hlt2] at HL
      have HSE := Aside0.mk hse
      have HXE := Aside0.mk hne
      have HLNE := Aside0.mk hln
      have HLTE := Aside0.mk hlt2
      have HCC := Aside0.mk (fun W => rcheck_calls 5 x s W (by have := HST.out; omega) HSN.out.1)
      clear hlt hj hse hne hln hlt2
      go_wp2_with fail
      refine (HCC.out _).mono ?_
      rintro e w2 ⟨rfl, b2⟩
      have HB2 := Aside0.mk (below_step HB.out b2)
      have HL2 := Aside0.mk (blk_below HL.out b2)
      have HO2 := Aside0.mk (Kd.R_below HO.out b2)
      obtain ⟨ad, e, h0, h1⟩ := at_T47 (Kd.C_below HR.out HB2.out) (j : Int) (by omega) (by have := HN.out; have := HLT.out; omega)
      cases e
      rw [Int.toNat_natCast] at h0 h1
      rw [show (rd_T47 l (j : Int)).f1 = s from HSE.out] at h1
      rw [show (rd_T47 l (j : Int)).f0 = x from HXE.out] at h0
      clear b2 HCC HB HO HL
      obtain ⟨E, hE⟩ : ∃ E, chk 5 x s = E := ⟨_, rfl⟩
      rw [hE] at HFE ⊢
      by_cases hz : E = 0
      · subst hz
        have HCK := Aside0.mk hE
        clear hE
        have HCX := Aside0.mk (heap_alloc_new w2 (.cells #[.int .u64 x, .string s] 47))
        have HB3 := Aside0.mk (below_alloc HB2.out (.cells #[.int .u64 x, .string s] 47))
        have HL3 := Aside0.mk (blk_alloc HL2.out (.cells #[.int .u64 x, .string s] 47))
        have HO3 := Aside0.mk (Kd.R_alloc HO2.out (.cells #[.int .u64 x, .string s] 47))
        obtain ⟨cb, hcb⟩ : ∃ cb, w2.heap.size = cb := ⟨_, rfl⟩
        have HCB := Aside0.mk hcb
        have d0 : (w2.alloc (.cells #[.int .u64 x, .string s] 47)).cell? ⟨w.heap.size, 0, none⟩ = some (.int .u64 ln) := (blk_cell HL3.out 0).trans rfl
        have d1 : (w2.alloc (.cells #[.int .u64 x, .string s] 47)).cell? ⟨w.heap.size, 1, none⟩ = some (.string lt) := (blk_cell HL3.out 1).trans rfl
        have d2 : (w2.alloc (.cells #[.int .u64 x, .string s] 47)).cell? ⟨w2.heap.size, 0, none⟩ = some (.int .u64 x) := (blk_cell HCX.out 0).trans rfl
        have d3 : (w2.alloc (.cells #[.int .u64 x, .string s] 47)).cell? ⟨w2.heap.size, 1, none⟩ = some (.string s) := (blk_cell HCX.out 1).trans rfl
        clear hcb
        by_cases hj0 : j = 0
        · have z1 : ((j : Int) == 0) = true := by rw [hj0]; rfl
          have z2 : decide ((j : Int) = 0) = true := decide_eq_true (by omega)
          have z3 : decide (j = 0) = true := decide_eq_true hj0
          have HPART := Aside0.mk (show pnum l (j + 1) = pnum l j ++ uv x.toNat from by have := pnum_one' l hj0; rw [HXE.out] at this; exact this)
          clear hj0
          go_wp2_with fail
          refine (ruint_calls x HSN.out.1 HSN.out.2 _).mono ?_
          rintro e w4 ⟨v4, rfl, hv4, b4⟩
          have HV4 := Aside0.mk hv4
          have HO4 := Aside0.mk (Kd.R_below HO3.out b4)
          have HB4 := Aside0.mk (below_step HB3.out b4)
          have HL4 := Aside0.mk (blk_below HL3.out b4)
          have HC4 := Aside0.mk (blk_below HCX.out b4)
          obtain ⟨A6, c6, rfl⟩ := Kd.R_slice HV4.out
          clear hv4 b4 HO3 HB3 HL3 HCX d0 d1 d2 d3 HO2 HB2 HL2
          go_wp2_with (at_builtin; refine Kd.R_append_rows (Kd.int .u8) (w0 := w) w.heap.size rfl (.tmp 111) (.tmp 114) 25 5 (.int .u8 0) 1 rfl Tryd.underlying25 infoB rfl (by decide) (by omega) _ (pnum l j) (uv x.toNat) A6 _ c6 (fun _ => True) (fun _ => False) rfl rfl ?aO ?aR (fun _ _ h => h) (fun _ h => h.elim) ?aF ?aB ?aS ?aL ?_; (case aO => exact HO4.out); (case aR => exact (Kd.R_reads' HV4.out).2.2); (case aF => exact fun _ _ => trivial); (case aB => exact HB4.out); (case aS => exact HB4.out.size); (case aL => have h1 := HLE.out; have h2 := congrArg List.length HPART.out; rw [List.length_append] at h2; have := HLT.out; omega); intro v9 w9 ho hb hg hat; have HO9 := Aside0.mk ho; have HB9 := Aside0.mk hb; have HL9 := Aside0.mk (blk_grown HL4.out hg (Kd.R_ne HO4.out HL4.out (by decide))); have HC9 := Aside0.mk (blk_grown HC4.out hg (Kd.R_ne HO4.out HC4.out (by decide))); have d2 : w9.cell? ⟨w2.heap.size, 0, none⟩ = some (.int .u64 x) := (blk_cell HC9.out 0).trans rfl; have d3 : w9.cell? ⟨w2.heap.size, 1, none⟩ = some (.string s) := (blk_cell HC9.out 1).trans rfl; have d4 : w9.cell? ⟨w.heap.size, 0, none⟩ = some (.int .u64 ln) := (blk_cell HL9.out 0).trans rfl; have d5 : w9.cell? ⟨w.heap.size, 1, none⟩ = some (.string lt) := (blk_cell HL9.out 1).trans rfl; have d6 : w9.frozen? ⟨w.heap.size, 0, none⟩ = false := blk_frozen HL9.out 0; have d7 : w9.frozen? ⟨w.heap.size, 1, none⟩ = false := blk_frozen HL9.out 1; clear ho hb hg hat)
          go_roundw
          case rel => exact ⟨j + 1, HLT.out, by go_num, ⟨HFE.out⟩, ⟨by rw [HPART.out]; exact Kd.R_set (Kd.R_set HO9.out HL9.out (by decide) 0 _) (blk_put HL9.out 0 (.int .u64 x) rfl) (by decide) 1 _⟩, ⟨below_set (below_set HB9.out (Nat.le_refl _)) (Nat.le_refl _)⟩, ⟨by rw [HLN.out, HLT2.out]; exact blk_put (blk_put HL9.out 0 (.int .u64 x) rfl) 1 (.string s) rfl⟩⟩
          case measure => have := HLT.out; simp [intOf]; omega
        · have z1 : ((j : Int) == 0) = false := beq_eq_false_iff_ne.mpr (by omega)
          have z2 : decide ((j : Int) = 0) = false := decide_eq_false (by omega)
          have z3 : decide (j = 0) = false := decide_eq_false hj0
          have HPART := Aside0.mk (show pnum l (j + 1) = pnum l j ++ dlt ln x from by rw [pnum_next l hj0, HLNE.out, HXE.out])
          clear hj0
          go_wp2_with fail
          refine (rint_calls ln x _).mono ?_
          rintro e w4 ⟨v4, rfl, hv4, b4⟩
          have HV4 := Aside0.mk hv4
          have HO4 := Aside0.mk (Kd.R_below HO3.out b4)
          have HB4 := Aside0.mk (below_step HB3.out b4)
          have HL4 := Aside0.mk (blk_below HL3.out b4)
          have HC4 := Aside0.mk (blk_below HCX.out b4)
          obtain ⟨A6, c6, rfl⟩ := Kd.R_slice HV4.out
          clear hv4 b4 HO3 HB3 HL3 HCX d0 d1 d2 d3 HO2 HB2 HL2
          go_wp2_with (at_builtin; refine Kd.R_append_rows (Kd.int .u8) (w0 := w) w.heap.size rfl (.tmp 40) (.tmp 47) 25 5 (.int .u8 0) 1 rfl Tryd.underlying25 infoB rfl (by decide) (by omega) _ (pnum l j) (dlt ln x) A6 _ c6 (fun _ => True) (fun _ => False) rfl rfl ?aO ?aR (fun _ _ h => h) (fun _ h => h.elim) ?aF ?aB ?aS ?aL ?_; (case aO => exact HO4.out); (case aR => exact (Kd.R_reads' HV4.out).2.2); (case aF => exact fun _ _ => trivial); (case aB => exact HB4.out); (case aS => exact HB4.out.size); (case aL => have h1 := HLE.out; have h2 := congrArg List.length HPART.out; rw [List.length_append] at h2; have := HLT.out; omega); intro v9 w9 ho hb hg hat; have HO9 := Aside0.mk ho; have HB9 := Aside0.mk hb; have HL9 := Aside0.mk (blk_grown HL4.out hg (Kd.R_ne HO4.out HL4.out (by decide))); have HC9 := Aside0.mk (blk_grown HC4.out hg (Kd.R_ne HO4.out HC4.out (by decide))); have d2 : w9.cell? ⟨w2.heap.size, 0, none⟩ = some (.int .u64 x) := (blk_cell HC9.out 0).trans rfl; have d3 : w9.cell? ⟨w2.heap.size, 1, none⟩ = some (.string s) := (blk_cell HC9.out 1).trans rfl; have d4 : w9.cell? ⟨w.heap.size, 0, none⟩ = some (.int .u64 ln) := (blk_cell HL9.out 0).trans rfl; have d5 : w9.cell? ⟨w.heap.size, 1, none⟩ = some (.string lt) := (blk_cell HL9.out 1).trans rfl; have d6 : w9.frozen? ⟨w.heap.size, 0, none⟩ = false := blk_frozen HL9.out 0; have d7 : w9.frozen? ⟨w.heap.size, 1, none⟩ = false := blk_frozen HL9.out 1; clear ho hb hg hat)
          go_roundw
          case rel => exact ⟨j + 1, HLT.out, by go_num, ⟨HFE.out⟩, ⟨by rw [HPART.out]; exact Kd.R_set (Kd.R_set HO9.out HL9.out (by decide) 0 _) (blk_put HL9.out 0 (.int .u64 x) rfl) (by decide) 1 _⟩, ⟨below_set (below_set HB9.out (Nat.le_refl _)) (Nat.le_refl _)⟩, ⟨by rw [HLN.out, HLT2.out]; exact blk_put (blk_put HL9.out 0 (.int .u64 x) rfl) 1 (.string s) rfl⟩⟩
          case measure => have := HLT.out; simp [intOf]; omega
      · have v1 : (E != 0) = true := bne_iff_ne.mpr hz
        have HZ := Aside0.mk hz
        clear hE hz
        go_wp2
        go_ret2
        have hw : wErr 5 l = E := by rw [HWE.out, ← HFE.out]; exact fe_stays 5 l (by rw [HFE.out]; exact HZ.out) n HLT.out
        exact ⟨.slice none 0 0, by rw [hw]; rfl, by rw [wBytes, hw, if_neg HZ.out]; exact Kd.R_nil _ _ _ _ _, HB2.out⟩
    · have u1 : decide ((j : Int) < (n : Int)) = false := decide_eq_false (by omega)
      have u2 : decide (j < n) = false := decide_eq_false hlt
      obtain rfl : n = j := by omega
      have hw : wErr 5 l = 0 := by rw [HWE.out]; exact HF.out
      have HWB := Aside0.mk (show wBytes 5 l = wrote 5 l from by rw [wBytes, if_pos hw])
      have HW0 := Aside0.mk hw
      clear hlt hj hw
      go_wp2
      go_ret2
      exact ⟨_, by rw [HW0.out]; rfl, by rw [HWB.out, HWO.out]; exact HO.out, HB.out⟩
end Go.Proofs.YtmoopdhnnpjcfaaDoor.Co
