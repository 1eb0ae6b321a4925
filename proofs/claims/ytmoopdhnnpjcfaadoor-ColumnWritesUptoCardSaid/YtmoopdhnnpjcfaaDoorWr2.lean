import Derived.Test.YtmoopdhnnpjcfaaDoorWrA
/-! Column: the document's Write, of kind 2. -/
namespace Go.Proofs.YtmoopdhnnpjcfaaDoor.Co
open Go.RowKit Go.Proofs.YtmoopdhnnpjcfaaDoorW.PrintWords Go.Proofs.YtmoopdhnnpjcfaaDoorW.PrintLast Go.Proofs.YtmoopdhnnpjcfaaDoorW.PrintMore Go.Proofs.YtmoopdhnnpjcfaaDoor.Wire Go.Proofs.YtmoopdhnnpjcfaaDoor.PCo Go.Proofs.YtmoopdhnnpjcfaaDoor.CoG
set_option linter.unusedVariables false
set_option linter.unusedSimpArgs false
set_option maxRecDepth 100000
theorem wb_at_ (l : List S47) (m : Nat) : ∀ j, (∀ r, r < j → 0 ≤ nm l r ∧ nm l r ≤ 1) → j ≤ 8 * m → ∀ q, q < m → (wb l m j)[q]? = some (bs l (8 * q) (min 8 (j - 8 * q)))
  | 0, _, _, q, hq => by rw [wb, List.getElem?_replicate, if_pos hq]; simp [bs]
  | j + 1, h, hm, q, hq => by
    have ih := wb_at_ l m j (fun r hr => h r (by omega)) (by omega)
    rw [wb]
    by_cases e : q = j / 8
    · subst e
      have hrd : rd (wb l m j) ((j / 8 : Nat) : Int) = bs l (8 * (j / 8)) (j % 8) := by
        unfold rd
        rw [Int.toNat_natCast, List.getD_eq_getElem?_getD, ih (j / 8) hq, show min 8 (j - 8 * (j / 8)) = j % 8 by omega]; rfl
      rw [List.getElem?_set_self (by rw [wb_len]; exact hq), hrd]
      have hl := bs_lt (l := l) (o := 8 * (j / 8)) (j % 8) (fun r hr => h _ (by omega))
      rw [or_bit_ hl.1 (by omega) hl.2 (h j (by omega)), show min 8 (j + 1 - 8 * (j / 8)) = j % 8 + 1 by omega, bs, show 8 * (j / 8) + j % 8 = j by omega]
    · rw [List.getElem?_set_ne (by omega), ih q hq]
      congr 2
      omega
theorem pbool_next_ {l : List S47} {j : Nat} (h : ∀ r, r ≤ j → 0 ≤ nm l r ∧ nm l r ≤ 1) :
    ∃ t, (if j % 8 = 0 then pbool l j ++ [0] else pbool l j) = t ∧ t.length = j / 8 + 1 ∧ pbool l (j + 1) = t.set (j / 8) (rd t ((j / 8 : Nat) : Int) + nm l j * 2 ^ (j % 8)) ∧ 0 ≤ rd t ((j / 8 : Nat) : Int) ∧ rd t ((j / 8 : Nat) : Int) < 2 ^ (j % 8) := by
  have ht : (if j % 8 = 0 then pbool l j ++ [0] else pbool l j) = wb l (j / 8 + 1) j := by
    unfold pbool
    by_cases e : j % 8 = 0
    · rw [if_pos e, show (j + 7) / 8 = j / 8 by omega, wb_grow l _ j (by omega)]
    · rw [if_neg e, show (j + 7) / 8 = j / 8 + 1 by omega]
  have hw := wb_at_ l (j / 8 + 1) j (fun r hr => h r (by omega)) (by omega) (j / 8) (by omega)
  have hrd : rd (wb l (j / 8 + 1) j) ((j / 8 : Nat) : Int) = bs l (8 * (j / 8)) (j % 8) := by
    unfold rd
    rw [Int.toNat_natCast, List.getD_eq_getElem?_getD, hw, show min 8 (j - 8 * (j / 8)) = j % 8 by omega]; rfl
  have hl := bs_lt (l := l) (o := 8 * (j / 8)) (j % 8) (fun r hr => h _ (by omega))
  refine ⟨_, ht, wb_len _ _ _, ?_, by rw [hrd]; exact hl.1, by rw [hrd]; exact hl.2⟩
  unfold pbool
  rw [show (j + 1 + 7) / 8 = j / 8 + 1 by omega, wb, hrd, or_bit_ hl.1 (by omega) hl.2 (h j (Nat.le_refl _))]
theorem bits_of {l : List S47} {j : Nat} (hf : fe 2 l (j + 1) = 0) (hn : ∀ i, 0 ≤ nm l i ∧ nm l i < 18446744073709551616) : ∀ r, r ≤ j → 0 ≤ nm l r ∧ nm l r ≤ 1 := fun r hr =>
  ⟨(hn r).1, (chk_num (fe_all hf r (by omega)) (by decide)).2 rfl⟩
set_option maxHeartbeats 8000000 in
theorem rwrite_2 {A : Option Addr} {c : Nat} {l : List S47} (w : World) (hr : Kd.C k47 w A l.length l) (hlen : l.length ≤ 1048576) (htx : ∀ i, (tx l i).size ≤ 140737488351232) (hnum : ∀ i, 0 ≤ nm l i ∧ nm l i < 18446744073709551616) :
    Calls Tryd.prog 23 #[.int .i64 2, .slice A l.length c] w fun e w' => ∃ v, e = .returned (.tuple #[v, .int .i64 (wErr 2 l)]) ∧ Kd.R (Kd.int .u8) 5 w' w.heap.size (fun _ => True) v (wBytes 2 l) ∧ Below w.heap.size w w' := by
  have HR := Aside0.mk hr
  have HTX := Aside0.mk htx
  have HNM := Aside0.mk hnum
  obtain ⟨n, hn⟩ : ∃ n, l.length = n := ⟨_, rfl⟩
  have HN := Aside0.mk hn
  have hnb : n ≤ 1048576 := by omega
  rw [hn]
  have HWE := Aside0.mk (show wErr 2 l = fe 2 l n from by rw [wErr, if_pos (by decide), hn])
  have HWO := Aside0.mk (show wrote 2 l = pbool l n from by rw [← hn]; rfl)
  clear hr hn htx hnum hlen
  go_enter Tryd.func23, Tryd.ntmps23
  go_wp2_with fail
  have HX0 := Aside0.mk (heap_alloc_new w (.cells #[.int .u64 0, .string ⟨#[]⟩] 47))
  have HB0 := Aside0.mk (below_alloc (Below.refl w.heap.size w) (.cells #[.int .u64 0, .string ⟨#[]⟩] 47))
  go_loopw [6, 8] (fun v i wr => ∃ j : Nat, j ≤ n ∧ i = .int .i64 (j : Int) ∧ Aside0 (fe 2 l j = 0) ∧ Aside0 (Kd.R (Kd.int .u8) 5 wr w.heap.size (fun _ => True) v (pbool l j)) ∧ Aside0 (Below w.heap.size w wr) ∧ Aside0 (wr.heap[w.heap.size]? = some (.cells #[.int .u64 (lnum l j), .string (lastT l j)] 47 (0, 0)))) (fun _ i _ => n - (intOf i).toNat)
  case atStart => exact ⟨0, by omega, rfl, ⟨rfl⟩, ⟨Kd.R_nil _ _ _ _ _⟩, ⟨HB0.out⟩, ⟨HX0.out⟩⟩
  case round =>
    obtain ⟨j, hj, rfl, HF, HO, HB, HL⟩ := hrel
    clear HX0 HB0
    obtain ⟨A5, c5, rfl⟩ := Kd.R_slice HO.out
    by_cases hlt : j < n
    · have u1 : decide ((j : Int) < (n : Int)) = true := decide_eq_true (by omega)
      have u2 : decide (j < n) = true := decide_eq_true hlt
      have HLT := Aside0.mk hlt
      obtain ⟨ad, e, h0, h1⟩ := at_T47 (Kd.C_below HR.out HB.out) (j : Int) (by omega) (by have := HN.out; omega)
      cases e
      rw [Int.toNat_natCast] at h0 h1
      have p1 : (0 ≤ (j : Int)) = True := eq_true (by omega)
      have p2 : ((j : Int) < (n : Int)) = True := eq_true (by omega)
      have hmax : (j : Int) + 1 ≤ 9223372036854775807 := by omega
      have HFE := Aside0.mk (show fe 2 l (j + 1) = chk 2 (nm l j) (tx l j) from by rw [fe, if_neg (by rw [HF.out]; decide)])
      have HLN := Aside0.mk (lnum_next l j)
      have HLT2 := Aside0.mk (lastT_next l j)
      have HST := Aside0.mk (HTX.out j)
      have HSN := Aside0.mk (HNM.out j)
      obtain ⟨s, hse⟩ : ∃ s, tx l j = s := ⟨_, rfl⟩
      obtain ⟨x, hne⟩ : ∃ x, nm l j = x := ⟨_, rfl⟩
      rw [show (rd_T47 l (j : Int)).f1 = s from hse] at h1
      rw [show (rd_T47 l (j : Int)).f0 = x from hne] at h0
      rw [hse] at HFE HST HLT2
      rw [hne] at HFE HSN HLN
      obtain ⟨ln, hln⟩ : ∃ ln, lnum l j = ln := ⟨_, rfl⟩
      obtain ⟨lt, hlt2⟩ : ∃ lt, lastT l j = lt := ⟨_, rfl⟩
      rw [hln, hlt2] at HL
      have HSE := Aside0.mk hse
      have HXE := Aside0.mk hne
      have HLNE := Aside0.mk hln
      have HLTE := Aside0.mk hlt2
      have HCC := Aside0.mk (fun W => rcheck_calls 2 x s W (by have := HST.out; omega) HSN.out.1)
      clear hlt hj hse hne hln hlt2
      go_wp2_with fail
      refine (HCC.out _).mono ?_
      rintro e w2 ⟨rfl, b2⟩
      have HB2 := Aside0.mk (below_step HB.out b2)
      have HL2 := Aside0.mk (blk_below HL.out b2)
      have HO2 := Aside0.mk (Kd.R_below HO.out b2)
      obtain ⟨ad, e, h0, h1⟩ := at_T47 (Kd.C_below HR.out HB2.out) (j : Int) (by omega) (by have := HN.out; have := HLT.out; omega)
      cases e
      rw [Int.toNat_natCast] at h0 h1
      rw [show (rd_T47 l (j : Int)).f1 = s from HSE.out] at h1
      rw [show (rd_T47 l (j : Int)).f0 = x from HXE.out] at h0
      clear b2 HCC HB HO HL
      obtain ⟨E, hE⟩ : ∃ E, chk 2 x s = E := ⟨_, rfl⟩
      rw [hE] at HFE ⊢
      by_cases hz : E = 0
      · subst hz
        have HCK := Aside0.mk hE
        clear hE
        have hbit := bits_of HFE.out HNM.out
        obtain ⟨t, hte, htl, htp, hto, hth⟩ := pbool_next_ hbit
        rw [HXE.out] at htp
        have hx1 := hbit j (Nat.le_refl _)
        rw [HXE.out] at hx1
        have HX1 := Aside0.mk hx1
        have HTE := Aside0.mk hte
        have HTL := Aside0.mk htl
        have HPART := Aside0.mk htp
        have HTO := Aside0.mk (And.intro hto hth)
        clear hbit hte htl htp hto hth hx1
        have HCX := Aside0.mk (heap_alloc_new w2 (.cells #[.int .u64 x, .string s] 47))
        have HB3 := Aside0.mk (below_alloc HB2.out (.cells #[.int .u64 x, .string s] 47))
        have HL3 := Aside0.mk (blk_alloc HL2.out (.cells #[.int .u64 x, .string s] 47))
        have HO3 := Aside0.mk (Kd.R_alloc HO2.out (.cells #[.int .u64 x, .string s] 47))
        obtain ⟨cb, hcb⟩ : ∃ cb, w2.heap.size = cb := ⟨_, rfl⟩
        have HCB := Aside0.mk hcb
        have d0 : (w2.alloc (.cells #[.int .u64 x, .string s] 47)).cell? ⟨w.heap.size, 0, none⟩ = some (.int .u64 ln) := (blk_cell HL3.out 0).trans rfl
        have d1 : (w2.alloc (.cells #[.int .u64 x, .string s] 47)).cell? ⟨w.heap.size, 1, none⟩ = some (.string lt) := (blk_cell HL3.out 1).trans rfl
        have d2 : (w2.alloc (.cells #[.int .u64 x, .string s] 47)).cell? ⟨w2.heap.size, 0, none⟩ = some (.int .u64 x) := (blk_cell HCX.out 0).trans rfl
        have d3 : (w2.alloc (.cells #[.int .u64 x, .string s] 47)).cell? ⟨w2.heap.size, 1, none⟩ = some (.string s) := (blk_cell HCX.out 1).trans rfl
        clear hcb
        dsimp only
        iterate 45 go_step
        obtain ⟨w3, hw3⟩ : ∃ w3, w2.alloc (.cells #[.int .u64 x, .string s] 47) = w3 := ⟨_, rfl⟩
        rw [hw3] at HCX HB3 HL3 HO3 d0 d1 d2 d3 ⊢
        clear hw3
        have hmod : (j : Int) % 8 = ((j % 8 : Nat) : Int) := by omega
        obtain ⟨r, hrr⟩ : ∃ r, j % 8 = r := ⟨_, rfl⟩
        have HRR := Aside0.mk hrr
        rw [hrr] at hmod HTE HPART HTO
        have hr8 : r < 8 := by omega
        obtain ⟨q, hqq⟩ : ∃ q, j / 8 = q := ⟨_, rfl⟩
        have HQQ := Aside0.mk hqq
        rw [hqq] at HTL HPART HTO
        have hqb : q ≤ 1048576 := by have := HLT.out; omega
        clear hrr hqq
        by_cases hr : r = 0
        · have z1 : ((r : Int) == 0) = true := by rw [hr]; rfl
          have z2 : decide ((r : Int) = 0) = true := decide_eq_true (by omega)
          have z3 : decide (r = 0) = true := decide_eq_true hr
          have z4 : ((j : Int) % 8 == 0) = true := by rw [hmod]; exact z1
          have HR0 := Aside0.mk hr
          clear hr
          go_wp2_with (at_builtin; refine Kd.R_append (Kd.int .u8) (w0 := w) w.heap.size rfl (.tmp 55) (.tmp 56) 25 5 (.int .u8 0) 1 rfl Tryd.underlying25 infoB rfl (by decide) (by omega) _ (pbool l j) (0 : Int) [.int .u8 0] (fun _ => True) (fun _ => False) rfl rfl ?aP (fun _ hk => hk.elim) ?aF ?aO ?aB ?aS ?aL ?_; (case aP => exact rfl); (case aB => exact HB3.out); (case aF => exact (fun _ _ => trivial)); (case aO => exact HO3.out); (case aS => exact HB3.out.size); (case aL => rw [pbool_len]; have := HLT.out; omega); intro v9 w9 ho hb hg hat; have HO9a := Aside0.mk ho; have HB9 := Aside0.mk hb; have HL9 := Aside0.mk (blk_grown HL3.out hg (Kd.R_ne HO3.out HL3.out (by decide))); have HC9 := Aside0.mk (blk_grown HCX.out hg (Kd.R_ne HO3.out HCX.out (by decide))); clear ho hb hg hat d0 d1 d2 d3)
          have HO9 := Aside0.mk (show Kd.R (Kd.int .u8) 5 w9 w.heap.size (fun _ => True) v9 t from by have := HO9a.out; have e := HTE.out; rw [if_pos HR0.out] at e; rw [← e]; exact this)
          clear HO9a
          obtain ⟨A9, cc9, rfl⟩ := Kd.R_slice HO9.out
          have hge : 1 ≤ t.length := by rw [HTL.out]; omega
          obtain ⟨go, c9, e9, gb, gl, cl, HG⟩ := Kd.R_form HO9.out hge
          injection e9 with ea en ec
          subst ea
          subst ec
          have GB := Aside0.mk gb
          clear en gl HG cl gb hge
          rw [HTL.out] at HO9 ⊢
          go_loopw [11, 12] (fun b i wr => ∃ k : Nat, k ≤ r ∧ i = .int .i64 (k : Int) ∧ b = .int .u8 ((2 ^ k : Nat) : Int) ∧ w9 = wr) (fun _ i _ => r - (intOf i).toNat)
          case atStart => exact ⟨0, by omega, rfl, rfl, rfl⟩
          case round =>
            obtain ⟨k, hk, rfl, rfl, rfl⟩ := hrel
            by_cases hlt2 : k < r
            · have y1 : decide ((k : Int) < (r : Int)) = true := decide_eq_true (by omega)
              have y2 : decide (k < r) = true := decide_eq_true hlt2
              have HLT2_ := Aside0.mk hlt2
              have hk6 : k ≤ 6 := by omega
              have HP := Aside0.mk (show (2 : Nat) ^ k ≤ 64 from Nat.pow_le_pow_right (by decide) hk6)
              have HP2 := Aside0.mk (show (2 : Nat) ^ (k + 1) = 2 ^ k * 2 from Nat.pow_succ _ _)
              obtain ⟨p, hp⟩ : ∃ p, (2 : Nat) ^ k = p := ⟨_, rfl⟩
              rw [hp] at HP HP2 ⊢
              have hp64 := HP.out
              have hmax2 : (k : Int) + 1 ≤ 9223372036854775807 := by omega
              clear hp hlt2 hk
              go_wp2_with fail
              go_roundw
              case rel => exact ⟨k + 1, HLT2_.out, by go_num, by rw [HP2.out]; go_num, by first | rfl | trivial⟩
              case measure => have := HLT2_.out; simp [intOf]; omega
            · have y1 : decide ((k : Int) < (r : Int)) = false := decide_eq_false (by omega)
              have y2 : decide (k < r) = false := decide_eq_false hlt2
              obtain rfl : r = k := by omega
              have hr7 : r ≤ 7 := by omega
              have HP := Aside0.mk (show (2 : Nat) ^ r ≤ 128 from Nat.pow_le_pow_right (by decide) hr7)
              have HPI := Aside0.mk (show ((2 ^ r : Nat) : Int) = (2 : Int) ^ r from by simp)
              obtain ⟨p, hp⟩ : ∃ p, (2 : Nat) ^ r = p := ⟨_, rfl⟩
              rw [hp] at HP HPI ⊢
              rw [← HPI.out] at HPART HTO
              have hp128 := HP.out
              clear hp hlt2 hk
              go_wp2_with fail
              obtain ⟨hcx, hfx⟩ := Kd.R_celln 0 HO9.out (q : Int) (by omega) (by omega)
              rw [Int.toNat_natCast] at hcx hfx
              have b0 : w9.cell? ⟨w2.heap.size, 0, none⟩ = some (.int .u64 x) := (blk_cell HC9.out 0).trans rfl
              have hq0 : (0 ≤ (q : Int)) = True := eq_true (by omega)
              have hq1 : ((q : Int) < ((q + 1 : Nat) : Int)) = True := eq_true (by omega)
              have hq2 : ((q + 1 : Nat) : Int) - 1 = (q : Int) := by omega
              refine QTail.wp_region_quiet_tail 13 (by kernel_rfl) (by kernel_rfl) ?_
              simp only [List.take_succ_cons, List.take_zero, List.drop_succ_cons, List.drop_zero]
              repeat (go_big_quiet_step (fail))
              refine wpQuiet_nil ?_
              intro _ hw'
              obtain ⟨nq, hw''⟩ := hw'
              subst hw''
              have HOV := Aside0.mk (show (rdOf 0 t (q : Int) + (p : Int) * (x % 256) % 256) % 256 = rd t (q : Int) + x * (p : Int) from by
                have h1 := HTO.out
                have h2 := HX1.out
                show (rd t (q : Int) + (p : Int) * (x % 256) % 256) % 256 = rd t (q : Int) + x * (p : Int)
                rcases (show x = 0 ∨ x = 1 by omega) with e | e <;> rw [e] <;> omega)
              rw [HOV.out]
              obtain ⟨O, hO⟩ : ∃ O, rd t (q : Int) + x * (p : Int) = O := ⟨_, rfl⟩
              rw [hO] at HPART ⊢
              have HNL := Kd.R_ne HO9.out HL9.out (by decide)
              have HNC := Kd.R_ne HO9.out HC9.out (by decide)
              iterate 2 go_step
              obtain ⟨W9, hW9⟩ : ∃ W9, (w9.drewN nq).setCell ⟨go, q, none⟩ (.int .u8 O) = W9 := ⟨_, rfl⟩
              have HOA := Aside0.mk (show Kd.R (Kd.int .u8) 5 W9 w.heap.size (fun _ => True) (.slice (some ⟨go, 0, none⟩) (q + 1) cc9) (t.set q O) from by rw [← hW9]; exact Kd.R_drewN (Kd.R_putn HO9.out (q : Int) O) nq)
              have HBA := Aside0.mk (show Below w.heap.size w W9 from by rw [← hW9]; exact below_set (pw_below_drewN HB9.out nq) GB.out)
              have HLA := Aside0.mk (show W9.heap[w.heap.size]? = some (.cells #[.int .u64 ln, .string lt] 47 (0, 0)) from by rw [← hW9]; exact (Below.heap_setCell (w9.drewN nq) ⟨go, q, none⟩ (.int .u8 O) w.heap.size (fun e => HNL (by rw [e]; rfl))).trans HL9.out)
              have HCA := Aside0.mk (show W9.heap[w2.heap.size]? = some (.cells #[.int .u64 x, .string s] 47 (0, 0)) from by rw [← hW9]; exact (Below.heap_setCell (w9.drewN nq) ⟨go, q, none⟩ (.int .u8 O) w2.heap.size (fun e => HNC (by rw [e]; rfl))).trans HC9.out)
              rw [hW9]
              have d2 : W9.cell? ⟨w2.heap.size, 0, none⟩ = some (.int .u64 x) := (blk_cell HCA.out 0).trans rfl
              have d3 : W9.cell? ⟨w2.heap.size, 1, none⟩ = some (.string s) := (blk_cell HCA.out 1).trans rfl
              have d4 : W9.cell? ⟨w.heap.size, 0, none⟩ = some (.int .u64 ln) := (blk_cell HLA.out 0).trans rfl
              have d5 : W9.cell? ⟨w.heap.size, 1, none⟩ = some (.string lt) := (blk_cell HLA.out 1).trans rfl
              have d6 : W9.frozen? ⟨w.heap.size, 0, none⟩ = false := blk_frozen HLA.out 0
              have d7 : W9.frozen? ⟨w.heap.size, 1, none⟩ = false := blk_frozen HLA.out 1
              clear hO HOV HNL HNC hW9 hcx hfx b0
              go_wp2_with fail
              go_roundw
              case rel => exact ⟨j + 1, HLT.out, by go_num, ⟨HFE.out⟩, ⟨by rw [HPART.out]; exact Kd.R_set (Kd.R_set HOA.out HLA.out (by decide) 0 _) (blk_put HLA.out 0 (.int .u64 x) rfl) (by decide) 1 _⟩, ⟨below_set (below_set HBA.out (Nat.le_refl _)) (Nat.le_refl _)⟩, ⟨by rw [HLN.out, HLT2.out]; exact blk_put (blk_put HLA.out 0 (.int .u64 x) rfl) 1 (.string s) rfl⟩⟩
              case measure => have := HLT.out; simp [intOf]; omega
        · have z1 : ((r : Int) == 0) = false := beq_eq_false_iff_ne.mpr (by omega)
          have z2 : decide ((r : Int) = 0) = false := decide_eq_false (by omega)
          have z3 : decide (r = 0) = false := decide_eq_false hr
          have z4 : ((j : Int) % 8 == 0) = false := by rw [hmod]; exact z1
          have hpt : pbool l j = t := by have e := HTE.out; rwa [if_neg hr] at e
          rw [hpt] at HO3 ⊢
          clear hr hpt
          go_wp2_with fail
          have HO9 := Aside0.mk HO3.out
          have HB9 := Aside0.mk HB3.out
          have HL9 := Aside0.mk HL3.out
          have HC9 := Aside0.mk HCX.out
          clear HO3 HB3 HL3 HCX d0 d1 d2 d3
          generalize w3 = w9 at *
          obtain ⟨cc9, hcc⟩ : ∃ cc9, cc9 = c5 := ⟨_, rfl⟩
          subst hcc
          have hge : 1 ≤ t.length := by rw [HTL.out]; omega
          obtain ⟨go, c9, e9, gb, gl, cl, HG⟩ := Kd.R_form HO9.out hge
          injection e9 with ea en ec
          subst ea
          subst ec
          have GB := Aside0.mk gb
          clear en gl HG cl gb hge
          rw [HTL.out] at HO9 ⊢
          go_loopw [11, 12] (fun b i wr => ∃ k : Nat, k ≤ r ∧ i = .int .i64 (k : Int) ∧ b = .int .u8 ((2 ^ k : Nat) : Int) ∧ w9 = wr) (fun _ i _ => r - (intOf i).toNat)
          case atStart => exact ⟨0, by omega, rfl, rfl, rfl⟩
          case round =>
            obtain ⟨k, hk, rfl, rfl, rfl⟩ := hrel
            by_cases hlt2 : k < r
            · have y1 : decide ((k : Int) < (r : Int)) = true := decide_eq_true (by omega)
              have y2 : decide (k < r) = true := decide_eq_true hlt2
              have HLT2_ := Aside0.mk hlt2
              have hk6 : k ≤ 6 := by omega
              have HP := Aside0.mk (show (2 : Nat) ^ k ≤ 64 from Nat.pow_le_pow_right (by decide) hk6)
              have HP2 := Aside0.mk (show (2 : Nat) ^ (k + 1) = 2 ^ k * 2 from Nat.pow_succ _ _)
              obtain ⟨p, hp⟩ : ∃ p, (2 : Nat) ^ k = p := ⟨_, rfl⟩
              rw [hp] at HP HP2 ⊢
              have hp64 := HP.out
              have hmax2 : (k : Int) + 1 ≤ 9223372036854775807 := by omega
              clear hp hlt2 hk
              go_wp2_with fail
              go_roundw
              case rel => exact ⟨k + 1, HLT2_.out, by go_num, by rw [HP2.out]; go_num, by first | rfl | trivial⟩
              case measure => have := HLT2_.out; simp [intOf]; omega
            · have y1 : decide ((k : Int) < (r : Int)) = false := decide_eq_false (by omega)
              have y2 : decide (k < r) = false := decide_eq_false hlt2
              obtain rfl : r = k := by omega
              have hr7 : r ≤ 7 := by omega
              have HP := Aside0.mk (show (2 : Nat) ^ r ≤ 128 from Nat.pow_le_pow_right (by decide) hr7)
              have HPI := Aside0.mk (show ((2 ^ r : Nat) : Int) = (2 : Int) ^ r from by simp)
              obtain ⟨p, hp⟩ : ∃ p, (2 : Nat) ^ r = p := ⟨_, rfl⟩
              rw [hp] at HP HPI ⊢
              rw [← HPI.out] at HPART HTO
              have hp128 := HP.out
              clear hp hlt2 hk
              go_wp2_with fail
              obtain ⟨hcx, hfx⟩ := Kd.R_celln 0 HO9.out (q : Int) (by omega) (by omega)
              rw [Int.toNat_natCast] at hcx hfx
              have b0 : w9.cell? ⟨w2.heap.size, 0, none⟩ = some (.int .u64 x) := (blk_cell HC9.out 0).trans rfl
              have hq0 : (0 ≤ (q : Int)) = True := eq_true (by omega)
              have hq1 : ((q : Int) < ((q + 1 : Nat) : Int)) = True := eq_true (by omega)
              have hq2 : ((q + 1 : Nat) : Int) - 1 = (q : Int) := by omega
              refine QTail.wp_region_quiet_tail 13 (by kernel_rfl) (by kernel_rfl) ?_
              simp only [List.take_succ_cons, List.take_zero, List.drop_succ_cons, List.drop_zero]
              repeat (go_big_quiet_step (fail))
              refine wpQuiet_nil ?_
              intro _ hw'
              obtain ⟨nq, hw''⟩ := hw'
              subst hw''
              have HOV := Aside0.mk (show (rdOf 0 t (q : Int) + (p : Int) * (x % 256) % 256) % 256 = rd t (q : Int) + x * (p : Int) from by
                have h1 := HTO.out
                have h2 := HX1.out
                show (rd t (q : Int) + (p : Int) * (x % 256) % 256) % 256 = rd t (q : Int) + x * (p : Int)
                rcases (show x = 0 ∨ x = 1 by omega) with e | e <;> rw [e] <;> omega)
              rw [HOV.out]
              obtain ⟨O, hO⟩ : ∃ O, rd t (q : Int) + x * (p : Int) = O := ⟨_, rfl⟩
              rw [hO] at HPART ⊢
              have HNL := Kd.R_ne HO9.out HL9.out (by decide)
              have HNC := Kd.R_ne HO9.out HC9.out (by decide)
              iterate 2 go_step
              obtain ⟨W9, hW9⟩ : ∃ W9, (w9.drewN nq).setCell ⟨go, q, none⟩ (.int .u8 O) = W9 := ⟨_, rfl⟩
              have HOA := Aside0.mk (show Kd.R (Kd.int .u8) 5 W9 w.heap.size (fun _ => True) (.slice (some ⟨go, 0, none⟩) (q + 1) cc9) (t.set q O) from by rw [← hW9]; exact Kd.R_drewN (Kd.R_putn HO9.out (q : Int) O) nq)
              have HBA := Aside0.mk (show Below w.heap.size w W9 from by rw [← hW9]; exact below_set (pw_below_drewN HB9.out nq) GB.out)
              have HLA := Aside0.mk (show W9.heap[w.heap.size]? = some (.cells #[.int .u64 ln, .string lt] 47 (0, 0)) from by rw [← hW9]; exact (Below.heap_setCell (w9.drewN nq) ⟨go, q, none⟩ (.int .u8 O) w.heap.size (fun e => HNL (by rw [e]; rfl))).trans HL9.out)
              have HCA := Aside0.mk (show W9.heap[w2.heap.size]? = some (.cells #[.int .u64 x, .string s] 47 (0, 0)) from by rw [← hW9]; exact (Below.heap_setCell (w9.drewN nq) ⟨go, q, none⟩ (.int .u8 O) w2.heap.size (fun e => HNC (by rw [e]; rfl))).trans HC9.out)
              rw [hW9]
              have d2 : W9.cell? ⟨w2.heap.size, 0, none⟩ = some (.int .u64 x) := (blk_cell HCA.out 0).trans rfl
              have d3 : W9.cell? ⟨w2.heap.size, 1, none⟩ = some (.string s) := (blk_cell HCA.out 1).trans rfl
              have d4 : W9.cell? ⟨w.heap.size, 0, none⟩ = some (.int .u64 ln) := (blk_cell HLA.out 0).trans rfl
              have d5 : W9.cell? ⟨w.heap.size, 1, none⟩ = some (.string lt) := (blk_cell HLA.out 1).trans rfl
              have d6 : W9.frozen? ⟨w.heap.size, 0, none⟩ = false := blk_frozen HLA.out 0
              have d7 : W9.frozen? ⟨w.heap.size, 1, none⟩ = false := blk_frozen HLA.out 1
              clear hO HOV HNL HNC hW9 hcx hfx b0
              go_wp2_with fail
              go_roundw
              case rel => exact ⟨j + 1, HLT.out, by go_num, ⟨HFE.out⟩, ⟨by rw [HPART.out]; exact Kd.R_set (Kd.R_set HOA.out HLA.out (by decide) 0 _) (blk_put HLA.out 0 (.int .u64 x) rfl) (by decide) 1 _⟩, ⟨below_set (below_set HBA.out (Nat.le_refl _)) (Nat.le_refl _)⟩, ⟨by rw [HLN.out, HLT2.out]; exact blk_put (blk_put HLA.out 0 (.int .u64 x) rfl) 1 (.string s) rfl⟩⟩
              case measure => have := HLT.out; simp [intOf]; omega
      · have v1 : (E != 0) = true := bne_iff_ne.mpr hz
        have HZ := Aside0.mk hz
        clear hE hz
        go_wp2
        go_ret2
        have hw : wErr 2 l = E := by rw [HWE.out, ← HFE.out]; exact fe_stays 2 l (by rw [HFE.out]; exact HZ.out) n HLT.out
        exact ⟨.slice none 0 0, by rw [hw]; rfl, by rw [wBytes, hw, if_neg HZ.out]; exact Kd.R_nil _ _ _ _ _, HB2.out⟩
    · have u1 : decide ((j : Int) < (n : Int)) = false := decide_eq_false (by omega)
      have u2 : decide (j < n) = false := decide_eq_false hlt
      obtain rfl : n = j := by omega
      have hw : wErr 2 l = 0 := by rw [HWE.out]; exact HF.out
      have HWB := Aside0.mk (show wBytes 2 l = wrote 2 l from by rw [wBytes, if_pos hw])
      have HW0 := Aside0.mk hw
      clear hlt hj hw
      go_wp2
      go_ret2
      exact ⟨_, by rw [HW0.out]; rfl, by rw [HWB.out, HWO.out]; exact HO.out, HB.out⟩
end Go.Proofs.YtmoopdhnnpjcfaaDoor.Co
