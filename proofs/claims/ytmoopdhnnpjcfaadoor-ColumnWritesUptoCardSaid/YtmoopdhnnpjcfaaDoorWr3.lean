import Derived.Test.YtmoopdhnnpjcfaaDoorWrA
/-! Column: the document's Write, of kind 3. -/
namespace Go.Proofs.YtmoopdhnnpjcfaaDoor.Co
open Go.RowKit Go.Proofs.YtmoopdhnnpjcfaaDoorW.PrintWords Go.Proofs.YtmoopdhnnpjcfaaDoorW.PrintLast Go.Proofs.YtmoopdhnnpjcfaaDoorW.PrintMore Go.Proofs.YtmoopdhnnpjcfaaDoor.Wire Go.Proofs.YtmoopdhnnpjcfaaDoor.PCo Go.Proofs.YtmoopdhnnpjcfaaDoor.CoG
set_option linter.unusedVariables false
set_option linter.unusedSimpArgs false
set_option maxRecDepth 100000
theorem txs_fine {l : List S47} (k : Int) (hk : k = 3 ∨ k = 4) : ∀ {j : Nat}, fe k l j = 0 → (txs l j).length ≤ 300 * j
  | 0, _ => Nat.le_refl _
  | j + 1, h => by
    have hc := chk_small (fe_all h j (by omega))
    have h0 : fe k l j = 0 := by
      rw [fe] at h
      by_cases e : fe k l j = 0
      · exact e
      · rw [if_pos e] at h; exact absurd h e
    have := txs_fine k hk h0
    have := tpart_len (a := lastT l j) (s := tx l j) (by omega)
    rw [txs, List.length_append]
    omega
set_option maxHeartbeats 8000000 in
theorem rwrite_3 {A : Option Addr} {c : Nat} {l : List S47} (w : World) (hr : Kd.C k47 w A l.length l) (hlen : l.length ≤ 1048576) (htx : ∀ i, (tx l i).size ≤ 140737488351232) (hnum : ∀ i, 0 ≤ nm l i ∧ nm l i < 18446744073709551616) :
    Calls Tryd.prog 23 #[.int .i64 3, .slice A l.length c] w fun e w' => ∃ v, e = .returned (.tuple #[v, .int .i64 (wErr 3 l)]) ∧ Kd.R (Kd.int .u8) 5 w' w.heap.size (fun _ => True) v (wBytes 3 l) ∧ Below w.heap.size w w' := by
  have HR := Aside0.mk hr
  have HTX := Aside0.mk htx
  have HNM := Aside0.mk hnum
  obtain ⟨n, hn⟩ : ∃ n, l.length = n := ⟨_, rfl⟩
  have HN := Aside0.mk hn
  have hnb : n ≤ 1048576 := by omega
  rw [hn]
  have HWE := Aside0.mk (show wErr 3 l = fe 3 l n from by rw [wErr, if_pos (by decide), hn])
  have HWO := Aside0.mk (show wrote 3 l = txs l n from by rw [← hn]; rfl)
  clear hr hn htx hnum hlen
  go_enter Tryd.func23, Tryd.ntmps23
  go_wp2_with fail
  have HX0 := Aside0.mk (heap_alloc_new w (.cells #[.int .u64 0, .string ⟨#[]⟩] 47))
  have HB0 := Aside0.mk (below_alloc (Below.refl w.heap.size w) (.cells #[.int .u64 0, .string ⟨#[]⟩] 47))
  go_loopw [6, 8] (fun v i wr => ∃ j : Nat, j ≤ n ∧ i = .int .i64 (j : Int) ∧ Aside0 (fe 3 l j = 0) ∧ Aside0 (Kd.R (Kd.int .u8) 5 wr w.heap.size (fun _ => True) v (txs l j)) ∧ Aside0 (Below w.heap.size w wr) ∧ Aside0 (wr.heap[w.heap.size]? = some (.cells #[.int .u64 (lnum l j), .string (lastT l j)] 47 (0, 0)))) (fun _ i _ => n - (intOf i).toNat)
  case atStart => exact ⟨0, by omega, rfl, ⟨rfl⟩, ⟨Kd.R_nil _ _ _ _ _⟩, ⟨HB0.out⟩, ⟨HX0.out⟩⟩
  case round =>
    obtain ⟨j, hj, rfl, HF, HO, HB, HL⟩ := hrel
    clear HX0 HB0
    obtain ⟨A5, c5, rfl⟩ := Kd.R_slice HO.out
    by_cases hlt : j < n
    · have u1 : decide ((j : Int) < (n : Int)) = true := decide_eq_true (by omega)
      have u2 : decide (j < n) = true := decide_eq_true hlt
      have HLT := Aside0.mk hlt
      obtain ⟨ad, e, h0, h1⟩ := at_T47 (Kd.C_below HR.out HB.out) (j : Int) (by omega) (by have := HN.out; omega)
      cases e
      rw [Int.toNat_natCast] at h0 h1
      have p1 : (0 ≤ (j : Int)) = True := eq_true (by omega)
      have p2 : ((j : Int) < (n : Int)) = True := eq_true (by omega)
      have hmax : (j : Int) + 1 ≤ 9223372036854775807 := by omega
      have HFE := Aside0.mk (show fe 3 l (j + 1) = chk 3 (nm l j) (tx l j) from by rw [fe, if_neg (by rw [HF.out]; decide)])
      have HLN := Aside0.mk (lnum_next l j)
      have HLT2 := Aside0.mk (lastT_next l j)
      have HST := Aside0.mk (HTX.out j)
      have HSN := Aside0.mk (HNM.out j)
      obtain ⟨s, hse⟩ : ∃ s, tx l j = s := ⟨_, rfl⟩
      obtain ⟨x, hne⟩ : ∃ x, nm l j = x := ⟨_, rfl⟩
      rw [show (rd_T47 l (j : Int)).f1 = s from hse] at h1
      rw [show (rd_T47 l (j : Int)).f0 = x from hne] at h0
      rw [hse] at HFE HST HLT2
      rw [hne] at HFE HSN HLN
      obtain ⟨ln, hln⟩ : ∃ ln, lnum l j = ln := ⟨_, rfl⟩
      obtain ⟨lt, hlt2⟩ : ∃ lt, lastT l j = lt := ⟨_, rfl⟩
      rw [hln, hlt2] at HL
      have HSE := Aside0.mk hse
      have HXE := Aside0.mk hne
      have HLNE := Aside0.mk hln
      have HLTE := Aside0.mk hlt2
      have HCC := Aside0.mk (fun W => rcheck_calls 3 x s W (by have := HST.out; omega) HSN.out.1)
      clear hlt hj hse hne hln hlt2
      go_wp2_with fail
      refine (HCC.out _).mono ?_
      rintro e w2 ⟨rfl, b2⟩
      have HB2 := Aside0.mk (below_step HB.out b2)
      have HL2 := Aside0.mk (blk_below HL.out b2)
      have HO2 := Aside0.mk (Kd.R_below HO.out b2)
      obtain ⟨ad, e, h0, h1⟩ := at_T47 (Kd.C_below HR.out HB2.out) (j : Int) (by omega) (by have := HN.out; have := HLT.out; omega)
      cases e
      rw [Int.toNat_natCast] at h0 h1
      rw [show (rd_T47 l (j : Int)).f1 = s from HSE.out] at h1
      rw [show (rd_T47 l (j : Int)).f0 = x from HXE.out] at h0
      clear b2 HCC HB HO HL
      obtain ⟨E, hE⟩ : ∃ E, chk 3 x s = E := ⟨_, rfl⟩
      rw [hE] at HFE ⊢
      by_cases hz : E = 0
      · subst hz
        have HCK := Aside0.mk hE
        clear hE
        have HPART := Aside0.mk (show txs l (j + 1) = txs l j ++ tpart lt s from by rw [txs, HSE.out, HLTE.out])
        have HLE := Aside0.mk (txs_fine 3 (.inl rfl) HFE.out)
        have HSZ := Aside0.mk (chk_small HCK.out)
        have HLZ := Aside0.mk (show lt.size ≤ 140737488351232 from by rw [← HLTE.out]; unfold lastT; split; exact Nat.zero_le _; exact HTX.out _)
        have HSH := Aside0.mk (shared_le lt s)
        have HPT := Aside0.mk (show tpart lt s = uv (shared lt s) ++ (uv (rest lt s).length ++ rest lt s) from rfl)
        have HRT := Aside0.mk (show rest lt s = bytesOf (s.extract (shared lt s) s.size) from (bytes_rest s _).symm)
        have HRS := Aside0.mk (fun W => rshared_calls lt s (by have := HLZ.out; omega) W)
        obtain ⟨S, hS⟩ : ∃ S, shared lt s = S := ⟨_, rfl⟩
        rw [hS] at HSH HPT HRT HRS
        have hsl : (S : Int) ≤ (s.size : Int) := by have := HSH.out; omega
        have hsb : (s.size : Int) ≤ 256 := by have := HSZ.out; omega
        have hs0 : S ≤ s.size := HSH.out.2
        have HU := Aside0.mk (fun W => ruint_calls (S : Int) (by omega) (by omega) W)
        rw [Int.toNat_natCast] at HU
        clear hS
        have HCX := Aside0.mk (heap_alloc_new w2 (.cells #[.int .u64 x, .string s] 47))
        have HB3 := Aside0.mk (below_alloc HB2.out (.cells #[.int .u64 x, .string s] 47))
        have HL3 := Aside0.mk (blk_alloc HL2.out (.cells #[.int .u64 x, .string s] 47))
        have HO3 := Aside0.mk (Kd.R_alloc HO2.out (.cells #[.int .u64 x, .string s] 47))
        obtain ⟨cb, hcb⟩ : ∃ cb, w2.heap.size = cb := ⟨_, rfl⟩
        have HCB := Aside0.mk hcb
        have d0 : (w2.alloc (.cells #[.int .u64 x, .string s] 47)).cell? ⟨w.heap.size, 0, none⟩ = some (.int .u64 ln) := (blk_cell HL3.out 0).trans rfl
        have d1 : (w2.alloc (.cells #[.int .u64 x, .string s] 47)).cell? ⟨w.heap.size, 1, none⟩ = some (.string lt) := (blk_cell HL3.out 1).trans rfl
        have d2 : (w2.alloc (.cells #[.int .u64 x, .string s] 47)).cell? ⟨w2.heap.size, 0, none⟩ = some (.int .u64 x) := (blk_cell HCX.out 0).trans rfl
        have d3 : (w2.alloc (.cells #[.int .u64 x, .string s] 47)).cell? ⟨w2.heap.size, 1, none⟩ = some (.string s) := (blk_cell HCX.out 1).trans rfl
        clear hcb
        go_wp2_with fail
        refine (HRS.out _).mono ?_
        rintro e w4 ⟨rfl, b4⟩
        have HC3 := Aside0.mk HCX.out
        clear d0 d1 d2 d3
        have HO4 := Aside0.mk (Kd.R_below HO3.out b4)
        have HB4 := Aside0.mk (below_step HB3.out b4)
        have HL4 := Aside0.mk (blk_below HL3.out b4)
        have HC4 := Aside0.mk (blk_below HC3.out b4)
        have d2 : w4.cell? ⟨w2.heap.size, 0, none⟩ = some (.int .u64 x) := (blk_cell HC4.out 0).trans rfl
        have d3 : w4.cell? ⟨w2.heap.size, 1, none⟩ = some (.string s) := (blk_cell HC4.out 1).trans rfl
        clear b4 HO3 HB3 HL3 HC3 HCX HRS HO2 HB2 HL2
        go_wp2_with fail
        refine (HU.out _).mono ?_
        rintro e w5 ⟨v5, rfl, hv5, b5⟩
        have HV5 := Aside0.mk hv5
        clear d2 d3
        have HO5 := Aside0.mk (Kd.R_below HO4.out b5)
        have HB5 := Aside0.mk (below_step HB4.out b5)
        have HL5 := Aside0.mk (blk_below HL4.out b5)
        have HC5 := Aside0.mk (blk_below HC4.out b5)
        have d2 : w5.cell? ⟨w2.heap.size, 0, none⟩ = some (.int .u64 x) := (blk_cell HC5.out 0).trans rfl
        have d3 : w5.cell? ⟨w2.heap.size, 1, none⟩ = some (.string s) := (blk_cell HC5.out 1).trans rfl
        clear hv5 b5 HO4 HB4 HL4 HC4 HU
        obtain ⟨A6, c6, rfl⟩ := Kd.R_slice HV5.out
        have kc := fun W => print_bytes (P := Tryd.prog) 9 25 5 Tryd.underlying9 Tryd.underlying25 Tryd.underlying5 (s.extract S s.size) W
        go_wp2_with (at_builtin; refine Kd.R_append_rows (Kd.int .u8) (w0 := w) w.heap.size rfl (.tmp 91) (.tmp 94) 25 5 (.int .u8 0) 1 rfl Tryd.underlying25 infoB rfl (by decide) (by omega) _ (txs l j) (uv S) A6 _ c6 (fun _ => True) (fun _ => False) rfl rfl ?aO ?aR (fun _ _ h => h) (fun _ h => h.elim) ?aF ?aB ?aS ?aL ?_; (case aO => exact HO5.out); (case aR => exact (Kd.R_reads' HV5.out).2.2); (case aF => exact fun _ _ => trivial); (case aB => exact HB5.out); (case aS => exact HB5.out.size); (case aL => have h1 := HLE.out; have h2 := congrArg List.length HPART.out; rw [HPT.out, List.length_append, List.length_append] at h2; have := HLT.out; omega); intro v6 w6 ho hb hg hat; have HO6 := Aside0.mk ho; have HB6 := Aside0.mk hb; have HL6 := Aside0.mk (blk_grown HL5.out hg (Kd.R_ne HO5.out HL5.out (by decide))); have HC6 := Aside0.mk (blk_grown HC5.out hg (Kd.R_ne HO5.out HC5.out (by decide))); have d2 : w6.cell? ⟨w2.heap.size, 0, none⟩ = some (.int .u64 x) := (blk_cell HC6.out 0).trans rfl; have d3 : w6.cell? ⟨w2.heap.size, 1, none⟩ = some (.string s) := (blk_cell HC6.out 1).trans rfl; have d4 : w6.cell? ⟨w.heap.size, 0, none⟩ = some (.int .u64 ln) := (blk_cell HL6.out 0).trans rfl; have d5 : w6.cell? ⟨w.heap.size, 1, none⟩ = some (.string lt) := (blk_cell HL6.out 1).trans rfl; have d6 : w6.frozen? ⟨w.heap.size, 0, none⟩ = false := blk_frozen HL6.out 0; have d7 : w6.frozen? ⟨w.heap.size, 1, none⟩ = false := blk_frozen HL6.out 1; clear ho hb hg hat)
        obtain ⟨A7, c7, rfl⟩ := Kd.R_slice HO6.out
        have hb7 : Below w.heap.size w (Lib.bytesWorld w6 5 (s.extract S s.size)) := bytes_below HB6.out HB6.out.size _ _
        have hb67 : Below w6.heap.size w6 (Lib.bytesWorld w6 5 (s.extract S s.size)) := bytes_below (Below.refl _ _) (Nat.le_refl _) _ _
        have hxl : (bytesOf (s.extract S s.size)).length = s.size - S := by rw [bytesOf_length, ext_size]
        have hrb := bytes_reads w6 5 (s.extract S s.size) (by rw [ext_size]; omega)
        have hcr : (Kd.int .u8).C (Lib.bytesWorld w6 5 (s.extract S s.size)) (some ⟨w6.heap.size, 0, none⟩) (bytesOf (s.extract S s.size)).length (bytesOf (s.extract S s.size)) := by
          rw [bytesOf_length]
          exact Kd.C_of_reads (d := (0 : Int)) (h1 := fun _ => rfl) hrb
        have HWB := Aside0.mk (rbytes_calls (c := grownCap w6 (s.size - S) 0 5) hxl (by rw [hxl]; omega) (by rw [hxl]; exact grownCap_ge _ _ _ _) _ hcr)
        have HO7 := Aside0.mk (Kd.R_below HO6.out hb67)
        have HB7 := Aside0.mk hb7
        have HL7 := Aside0.mk (blk_below HL6.out hb67)
        have HC7 := Aside0.mk (blk_below HC6.out hb67)
        rw [← HRT.out] at HWB
        obtain ⟨w7, hw7⟩ : ∃ w7, Lib.bytesWorld w6 5 (s.extract S s.size) = w7 := ⟨_, rfl⟩
        rw [hw7] at HWB HO7 HB7 HL7 HC7 ⊢
        clear hb7 hb67 hxl hrb hcr hw7 d2 d3 d4 d5 d6 d7 HO6 HB6 HL6 HC6 kc
        refine HWB.out.mono ?_
        rintro e w8 ⟨v8, rfl, hv8, b8⟩
        have HV8 := Aside0.mk hv8
        have HO8 := Aside0.mk (Kd.R_below HO7.out b8)
        have HB8 := Aside0.mk (below_step HB7.out b8)
        have HL8 := Aside0.mk (blk_below HL7.out b8)
        have HC8 := Aside0.mk (blk_below HC7.out b8)
        have d2 : w8.cell? ⟨w2.heap.size, 0, none⟩ = some (.int .u64 x) := (blk_cell HC8.out 0).trans rfl
        have d3 : w8.cell? ⟨w2.heap.size, 1, none⟩ = some (.string s) := (blk_cell HC8.out 1).trans rfl
        obtain ⟨pc, hpc⟩ : ∃ pc, uv (rest lt s).length ++ rest lt s = pc := ⟨_, rfl⟩
        rw [hpc] at HV8 HPT
        clear hv8 b8 HO7 HB7 HL7 HC7 HWB hpc
        obtain ⟨A8, c8, rfl⟩ := Kd.R_slice HV8.out
        have HLL := Aside0.mk (show (txs l j ++ uv S).length + pc.length ≤ 300 * (j + 1) from by have h1 := HLE.out; have h2 := congrArg List.length HPART.out; rw [HPT.out, List.length_append, List.length_append] at h2; rw [List.length_append]; omega)
        obtain ⟨pre, hpre⟩ : ∃ pre, txs l j ++ uv S = pre := ⟨_, rfl⟩
        have HPRE := Aside0.mk (show txs l (j + 1) = pre ++ pc from by rw [HPART.out, HPT.out, ← hpre, List.append_assoc])
        rw [hpre] at HO8 HLL ⊢
        clear hpre HPART d2 d3
        have HPART := Aside0.mk HPRE.out
        go_wp2_with (at_builtin; refine Kd.R_append_rows (Kd.int .u8) (w0 := w) w.heap.size rfl (.tmp 96) (.tmp 102) 25 5 (.int .u8 0) 1 rfl Tryd.underlying25 infoB rfl (by decide) (by omega) _ (pre) (pc) A8 _ c8 (fun _ => True) (fun _ => False) rfl rfl ?aO ?aR (fun _ _ h => h) (fun _ h => h.elim) ?aF ?aB ?aS ?aL ?_; (case aO => exact HO8.out); (case aR => exact (Kd.R_reads' HV8.out).2.2); (case aF => exact fun _ _ => trivial); (case aB => exact HB8.out); (case aS => exact HB8.out.size); (case aL => have := HLL.out; have := HLT.out; omega); intro v9 w9 ho hb hg hat; have HO9 := Aside0.mk ho; have HB9 := Aside0.mk hb; have HL9 := Aside0.mk (blk_grown HL8.out hg (Kd.R_ne HO8.out HL8.out (by decide))); have HC9 := Aside0.mk (blk_grown HC8.out hg (Kd.R_ne HO8.out HC8.out (by decide))); have d2 : w9.cell? ⟨w2.heap.size, 0, none⟩ = some (.int .u64 x) := (blk_cell HC9.out 0).trans rfl; have d3 : w9.cell? ⟨w2.heap.size, 1, none⟩ = some (.string s) := (blk_cell HC9.out 1).trans rfl; have d4 : w9.cell? ⟨w.heap.size, 0, none⟩ = some (.int .u64 ln) := (blk_cell HL9.out 0).trans rfl; have d5 : w9.cell? ⟨w.heap.size, 1, none⟩ = some (.string lt) := (blk_cell HL9.out 1).trans rfl; have d6 : w9.frozen? ⟨w.heap.size, 0, none⟩ = false := blk_frozen HL9.out 0; have d7 : w9.frozen? ⟨w.heap.size, 1, none⟩ = false := blk_frozen HL9.out 1; clear ho hb hg hat)
        go_roundw
        case rel => exact ⟨j + 1, HLT.out, by go_num, ⟨HFE.out⟩, ⟨by rw [HPART.out]; exact Kd.R_set (Kd.R_set HO9.out HL9.out (by decide) 0 _) (blk_put HL9.out 0 (.int .u64 x) rfl) (by decide) 1 _⟩, ⟨below_set (below_set HB9.out (Nat.le_refl _)) (Nat.le_refl _)⟩, ⟨by rw [HLN.out, HLT2.out]; exact blk_put (blk_put HL9.out 0 (.int .u64 x) rfl) 1 (.string s) rfl⟩⟩
        case measure => have := HLT.out; simp [intOf]; omega
      · have v1 : (E != 0) = true := bne_iff_ne.mpr hz
        have HZ := Aside0.mk hz
        clear hE hz
        go_wp2
        go_ret2
        have hw : wErr 3 l = E := by rw [HWE.out, ← HFE.out]; exact fe_stays 3 l (by rw [HFE.out]; exact HZ.out) n HLT.out
        exact ⟨.slice none 0 0, by rw [hw]; rfl, by rw [wBytes, hw, if_neg HZ.out]; exact Kd.R_nil _ _ _ _ _, HB2.out⟩
    · have u1 : decide ((j : Int) < (n : Int)) = false := decide_eq_false (by omega)
      have u2 : decide (j < n) = false := decide_eq_false hlt
      obtain rfl : n = j := by omega
      have hw : wErr 3 l = 0 := by rw [HWE.out]; exact HF.out
      have HWB := Aside0.mk (show wBytes 3 l = wrote 3 l from by rw [wBytes, if_pos hw])
      have HW0 := Aside0.mk hw
      clear hlt hj hw
      go_wp2
      go_ret2
      exact ⟨_, by rw [HW0.out]; rfl, by rw [HWB.out, HWO.out]; exact HO.out, HB.out⟩
end Go.Proofs.YtmoopdhnnpjcfaaDoor.Co
