import Derived.Test.YtamnnaadnjkdiaaRbA
import Derived.Test.YtamnnaadnjkdiaaQTail
/-! ReaderBack: the function that reads. -/
namespace Go.Proofs.Ytamnnaadnjkdiaa.Rb
open Go.RowKit Go.Proofs.YtamnnaadnjkdiaaW.PrintWords Go.Proofs.YtamnnaadnjkdiaaW.PrintLast Go.Proofs.YtamnnaadnjkdiaaW.PrintMore Go.Proofs.Ytamnnaadnjkdiaa.Wire Go.Proofs.Ytamnnaadnjkdiaa.Frame Go.Proofs.Ytamnnaadnjkdiaa.Rd
set_option linter.unusedVariables false
set_option linter.unusedSimpArgs false
set_option maxRecDepth 100000
structure Env where
  g : Nat
  bl : Nat
  bg : Nat
  bt : Nat
  A : Option Addr
  c : Nat
  B : List Int
  A1 : Option Addr
  n1 : Nat
  c1 : Nat
  A2 : Option Addr
  n2 : Nat
  c2 : Nat
structure Sb (w0 W1 W : World) (E : Env) (a : Nat) : Prop where
  r : Rd w0 W E.g E.A E.c E.B a
  list : W.heap[E.bl]? = some (.cells #[.slice E.A1 E.n1 E.c1] 61 (0, 0))
  good_ : W.heap[E.bg]? = some (.cells #[.bool true] 4 (0, 0))
  rows : W.heap[E.bt]? = some (.cells #[.slice E.A2 E.n2 E.c2] 62 (0, 0))
  ne : E.g ≠ E.bl ∧ E.g ≠ E.bg ∧ E.g ≠ E.bt
  old : w0.heap.size ≤ E.bg
  kp : Kp (fun k => k = E.g ∨ k = E.bg) W1 W
namespace Sb
variable {w0 W1 W W' : World} {E : Env} {a : Nat}
theorem below (h : Sb w0 W1 W E a) (hb : Below W.heap.size W W') : Sb w0 W1 W' E a :=
  ⟨h.r.below hb, blk_below h.list hb, blk_below h.good_ hb, blk_below h.rows hb, h.ne, h.old, h.kp.below hb⟩
theorem drewN (h : Sb w0 W1 W E a) (m : Nat) : Sb w0 W1 (W.drewN m) E a := h.below (pw_below_drewN (Below.refl _ _) m)
theorem drew (h : Sb w0 W1 W E a) : Sb w0 W1 W.drew E a := h.below (below_drew1 (Below.refl _ _))
theorem rstep (h : Sb w0 W1 W E a) {a' : Nat} (hr : Rd w0 W' E.g E.A E.c E.B a') (hk : Kp (fun k => k = E.g) W W') : Sb w0 W1 W' E a' :=
  ⟨hr, hk.blk h.list h.ne.1.symm, hk.blk h.good_ h.ne.2.1.symm, hk.blk h.rows h.ne.2.2.symm, h.ne, h.old, h.kp.trans (hk.mono (fun k z => .inl z))⟩
theorem setGood (h : Sb w0 W1 W E a) : Sb w0 W1 (W.setCell ⟨E.bg, 0, none⟩ (.bool true)) E a := by
  have hk : Kp (fun k => k = E.bg) W (W.setCell ⟨E.bg, 0, none⟩ (.bool true)) := (Kp.refl (fun k => k = E.bg) W).setCell (p := ⟨E.bg, 0, none⟩) (.inl rfl) _
  exact ⟨h.r.keep hk (fun k z => by rw [z]; exact ⟨h.old, h.ne.2.1.symm⟩), hk.blk h.list (blk_ne h.list h.good_ (by decide)), blk_put h.good_ 0 _ rfl, hk.blk h.rows (blk_ne h.rows h.good_ (by decide)), h.ne, h.old, h.kp.trans (hk.mono (fun k z => .inr z))⟩
theorem cells (h : Sb w0 W1 W E a) : W.cell? ⟨E.bl, 0, none⟩ = some (.slice E.A1 E.n1 E.c1) ∧ W.cell? ⟨E.bg, 0, none⟩ = some (.bool true) ∧ W.frozen? ⟨E.bg, 0, none⟩ = false ∧ W.cell? ⟨E.bt, 0, none⟩ = some (.slice E.A2 E.n2 E.c2) :=
  ⟨(blk_cell h.list 0).trans rfl, (blk_cell h.good_ 0).trans rfl, blk_frozen h.good_ 0, (blk_cell h.rows 0).trans rfl⟩
theorem r_int (h : Sb w0 W1 W E a) (x : Int) (k : Nat) (hg : gu (E.B.drop a) = (x, (k : Int), 0)) : Calls Try.prog 27 #[.pointer (some ⟨E.g, 0, none⟩)] W fun e w' => e = .returned (.int .i64 (zagS x)) ∧ Sb w0 W1 w' E (a + k) :=
  (h.r.int_step x k hg).mono fun e w' ⟨he, hr, hk⟩ => ⟨he, h.rstep hr hk⟩
theorem r_int_end (h : Sb w0 W1 W E a) (x k e1 : Int) (hg : gu (E.B.drop a) = (x, k, e1)) (he : e1 ≠ 0) : Calls Try.prog 27 #[.pointer (some ⟨E.g, 0, none⟩)] W fun e w' => e = .panicked [ends E.g e1] ∧ Sb w0 W1 w' E a :=
  (h.r.int_end x k e1 hg he).mono fun e w' ⟨he, hr, hk⟩ => ⟨he, h.rstep hr hk⟩
theorem r_bytes (h : Sb w0 W1 W E a) (p : List Int) (k : Nat) (hg : gb (E.B.drop a) 300 = (p, (k : Int), 0)) (hk : a + k ≤ E.B.length) :
    Calls Try.prog 29 #[.pointer (some ⟨E.g, 0, none⟩), .int .i64 300] W fun e w' => ∃ A2 c2, e = .returned (.slice A2 p.length c2) ∧ (Kd.int .u8).C w' A2 p.length p ∧ Sb w0 W1 w' E (a + k) := by
  refine (bytes_calls h.r.at_ h.r.row h.r.cap h.r.le h.r.by_ h.r.len 300 (by decide) p k hg (by have := h.r.len; omega)).mono ?_
  rintro e w' ⟨v, w1, rfl, hv, hb, rfl⟩
  have hk1 : Kp (fun k => k = E.g) W (w1.setCell ⟨E.g, 1, none⟩ (.int .i64 ((a + k : Nat) : Int))) := (Kp.of_below hb _).set_g _ _
  obtain ⟨A2, c2, rfl⟩ := Kd.R_slice hv
  refine ⟨A2, c2, rfl, ?_, h.rstep (h.r.step hk1 ((h.r.at_.below hb).set (a + k)) hk) hk1⟩
  have hx := (h.r.at_.below hb)
  have hv2 := Kd.R_types hv hx (by decide)
  exact (Kd.R_reads' (Kd.R_far (p := ⟨E.g, 1, none⟩) hv2 (fun k z => z.2) _)).2.2
theorem r_bytes_end (h : Sb w0 W1 W E a) (p : List Int) (k e1 : Int) (hg : gb (E.B.drop a) 300 = (p, k, e1)) (he : e1 ≠ 0) :
    Calls Try.prog 29 #[.pointer (some ⟨E.g, 0, none⟩), .int .i64 300] W fun e w' => e = .panicked [ends E.g e1] ∧ Sb w0 W1 w' E a := by
  refine (bytes_ends h.r.at_ h.r.row h.r.cap h.r.le h.r.by_ h.r.len 300 (by decide) p k e1 hg he).mono ?_
  rintro e w' ⟨rfl, hb⟩
  exact ⟨rfl, h.below hb⟩
end Sb
set_option maxHeartbeats 8000000 in
theorem back_closure {w0 W1 : World} {E : Env} {xs : List Int} {ys : List (List Int)} {K : Nat} (h : Sb w0 W1 W1 E 0) (hf : Fine xs ys) (hs : Stands E.B xs ys K) (hn1 : xs.length = E.n1) (hn2 : ys.length = E.n2) (hsm : E.n1 ≤ 100 ∧ E.n2 ≤ 30) (hys : ∀ i, i < E.n2 → (bys ys i).length ≤ 300)
    (hC1 : (Kd.int .i64).C w0 E.A1 xs.length xs) (hC2 : Kd.C (Kd.slice 5 (Kd.int .u8)) w0 E.A2 ys.length ys) :
    Calls Try.prog 39 (#[.pointer (some ⟨E.g, 0, none⟩)] ++ #[.pointer (some ⟨E.bl, 0, none⟩), .pointer (some ⟨E.bg, 0, none⟩), .pointer (some ⟨E.bt, 0, none⟩)]) W1
      (Left_ (fun k => k = E.bg) E.g E.A E.B.length E.c W1 (fun a w' => K = E.n1 + E.n2 ∧ a = pos xs ys K ∧ Sb w0 W1 w' E a) (fun a er w' => K < E.n1 + E.n2 ∧ a = pos xs ys K ∧ er = 5 ∧ Sb w0 W1 w' E a)) := by
  have H := Aside0.mk h
  have HF := Aside0.mk hf
  have HS := Aside0.mk hs
  have HY := Aside0.mk hys
  have HN1 := Aside0.mk hn1
  have HN2 := Aside0.mk hn2
  have HC1 := Aside0.mk hC1
  have HC2 := Aside0.mk hC2
  have HM := Aside0.mk hs.most
  obtain ⟨b1, b2⟩ := hsm
  obtain ⟨c1, -, -, -⟩ := h.cells
  clear h hf hs hys hn1 hn2 hC1 hC2
  go_enter Try.func39, Try.ntmps39
  go_wp2
  go_loopw [11] (fun i wr => ∃ j : Nat, j ≤ E.n1 ∧ j ≤ K ∧ i = .int .i64 (j : Int) ∧ Aside0 (Sb w0 W1 wr E (pos xs ys j))) (fun i _ => E.n1 - (intOf i).toNat)
  case atStart => exact ⟨0, by omega, by omega, rfl, ⟨H.out⟩⟩
  case round =>
    obtain ⟨j, hj, hjK, rfl, HS1⟩ := hrel
    clear c1
    by_cases hlt : j < E.n1
    · have u1 : decide ((j : Int) < (E.n1 : Int)) = true := decide_eq_true (by omega)
      have u2 : decide (j < E.n1) = true := decide_eq_true hlt
      have HLT := Aside0.mk hlt
      obtain ⟨ad, e, hx⟩ := Kd.at_int (Kd.C_below HC1.out HS1.out.r.base) (j : Int) (by omega) (by have := HN1.out; omega)
      rw [Int.toNat_natCast] at hx
      have p1 : (0 ≤ (j : Int)) = True := eq_true (by omega)
      have p2 : ((j : Int) < (E.n1 : Int)) = True := eq_true (by omega)
      have hmax : (j : Int) + 1 ≤ 9223372036854775807 := by omega
      obtain ⟨-, cg, fg, -⟩ := HS1.out.cells
      rw [e]
      clear e
      by_cases hK : j < K
      · have HO := Aside0.mk (num_ok HF.out HS.out hK (by rw [HN1.out]; exact hlt))
        have HC := Aside0.mk (HS1.out.r_int _ _ HO.out.1)
        have HJK := Aside0.mk hK
        rw [zag_num HF.out j] at HC
        generalize rd xs (j : Int) = x at *
        have q0 : (x == x) = true := by simp
        clear hlt hj hjK hK
        go_wp2_with fail
        refine HC.out.mono ?_
        rintro e w2 ⟨rfl, hs2⟩
        have HS2 := Aside0.mk hs2.setGood
        obtain ⟨-, cg, fg, -⟩ := hs2.cells
        clear hs2 HC
        go_wp2_with fail
        go_roundw
        case rel => exact ⟨j + 1, HLT.out, HJK.out, by go_num, ⟨by rw [HO.out.2]; exact HS2.out⟩⟩
        case measure => have := HLT.out; simp [intOf]; omega
      · obtain rfl : j = K := by omega
        have HC := Aside0.mk (HS1.out.r_int_end _ _ _ (num_cut HF.out HS.out (by rw [HN1.out]; exact hlt)) (by decide))
        clear hlt hj hjK hK
        go_wp2_with fail
        refine HC.out.mono ?_
        rintro e w2 ⟨rfl, hs2⟩
        (try simp only [Exit.inBlock, Exit.then])
        exact ⟨rfl, hs2.kp, .inr ⟨_, 5, rfl, hs2.r.at_, hs2.r.le, by have := HLT.out; omega, rfl, rfl, hs2⟩⟩
    · have u1 : decide ((j : Int) < (E.n1 : Int)) = false := decide_eq_false (by omega)
      have u2 : decide (j < E.n1) = false := decide_eq_false hlt
      obtain rfl : j = E.n1 := by omega
      obtain ⟨W2, hW2⟩ : ∃ W2, W2 = wr := ⟨_, rfl⟩
      subst hW2
      obtain ⟨-, -, -, ct⟩ := HS1.out.cells
      have HSX := Aside0.mk (show Sb w0 W1 W2 E (pos xs ys (E.n1 + 0)) from HS1.out)
      clear hlt hj HS1
      go_wp2
      go_loopw [25] (fun i wr => ∃ j : Nat, j ≤ E.n2 ∧ E.n1 + j ≤ K ∧ i = .int .i64 (j : Int) ∧ Aside0 (Sb w0 W1 wr E (pos xs ys (E.n1 + j)))) (fun i _ => E.n2 - (intOf i).toNat)
      case atStart => exact ⟨0, by omega, by omega, rfl, ⟨HSX.out⟩⟩
      case round =>
        obtain ⟨j, hj, hjK, rfl, HS1⟩ := hrel
        clear ct
        by_cases hlt : j < E.n2
        · have u3 : decide ((j : Int) < (E.n2 : Int)) = true := decide_eq_true (by omega)
          have u4 : decide (j < E.n2) = true := decide_eq_true hlt
          have HLT := Aside0.mk hlt
          obtain ⟨ad, A3, c3, e, hx, hc3, hC3⟩ := row_at HC2.out (by rw [HN2.out]; exact hlt)
          have hx1 := pw_cell_below HS1.out.r.base hx
          have p1 : (0 ≤ (j : Int)) = True := eq_true (by omega)
          have p2 : ((j : Int) < (E.n2 : Int)) = True := eq_true (by omega)
          have hmax : (j : Int) + 1 ≤ 9223372036854775807 := by omega
          have HL3 := Aside0.mk (HY.out j hlt)
          obtain ⟨y, hy⟩ : ∃ y, bys ys j = y := ⟨_, rfl⟩
          rw [hy] at hx1 hC3 hc3 HL3
          have HC3 := Aside0.mk hC3
          clear hx hc3 hC3
          rw [e]
          clear e
          by_cases hK : E.n1 + j < K
          · have ho := bys_ok HS.out (i := j) (by rw [HN1.out]; exact hK) (by rw [hy]; exact HL3.out)
            rw [hy, HN1.out] at ho
            have HO := Aside0.mk ho
            have HPL := Aside0.mk (show pos xs ys (E.n1 + j) + (usz y.length + y.length) ≤ E.B.length from by
              rw [← ho.2]
              exact Nat.le_trans (pos_mono xs ys (by omega)) HS.out.le)
            have HC := Aside0.mk (fun m => (HS1.out.drewN m).r_bytes _ _ HO.out.1 HPL.out)
            have HJK := Aside0.mk hK
            have q0 : ((strOfNums y).toList == (strOfNums y).toList) = true := by simp
            have hcv : (convert 22 9 (.slice A3 y.length c3)).run Try.prog wr.drew = .ok (.string (strOfNums y)) wr.drew := Kd.C_string (P := Try.prog) (A := A3) (c := c3) Try.underlying22 Try.underlying5 Try.underlying9 (Kd.C_drewN (Kd.C_below HC3.out HS1.out.r.base) 1)
            obtain ⟨-, cg, fg, -⟩ := HS1.out.cells
            clear hlt hj hjK hK ho hy
            go_wp2_with fail
            go_region_with (go_at_call 29; refine (HC.out _).mono ?_; rintro e w2 ⟨A4, c4, rfl, hc4, hs2⟩; have hcv4 := Kd.C_string (P := Try.prog) (A := A4) (c := c4) Try.underlying22 Try.underlying5 Try.underlying9 hc4; have hcv5 := Kd.C_string (P := Try.prog) (A := A3) (c := c3) Try.underlying22 Try.underlying5 Try.underlying9 (Kd.C_below HC3.out hs2.r.base); have HS2 := Aside0.mk hs2.setGood; obtain ⟨-, cg, fg, -⟩ := hs2.cells; clear hc4 hs2)
            all_goals
              go_wp2_with fail
              go_roundw
              case rel => exact ⟨j + 1, HLT.out, HJK.out, by go_num, ⟨by rw [HO.out.2]; exact HS2.out⟩⟩
              case measure => have := HLT.out; simp [intOf]; omega
          · obtain rfl : E.n1 + j = K := by omega
            have hcut := bys_cut (i := j) (by rw [HN1.out]; exact HS.out) (by rw [HN2.out]; exact hlt) (by rw [hy]; exact HL3.out)
            rw [HN1.out] at hcut
            have HC := Aside0.mk (fun m => (HS1.out.drewN m).r_bytes_end _ _ _ hcut (by decide))
            have hcv : (convert 22 9 (.slice A3 y.length c3)).run Try.prog wr.drew = .ok (.string (strOfNums y)) wr.drew := Kd.C_string (P := Try.prog) (A := A3) (c := c3) Try.underlying22 Try.underlying5 Try.underlying9 (Kd.C_drewN (Kd.C_below HC3.out HS1.out.r.base) 1)
            obtain ⟨-, cg, fg, -⟩ := HS1.out.cells
            clear hlt hj hjK hK hcut hy
            go_wp2_with fail
            refine wp_region_any (by kernel_rfl) ?_
            change wpAny _ _ _ _ _ _ _ (World.drew _)
            refine wpAny_ready (rs := [0]) (by kernel_rfl) (by simp) ?_
            refine AllReady.cons rfl (fun K hK => ?_) AllReady.nil
            go_simp
            refine hK _ _ ?_
            clear hK K
            refine wpAny_ready (rs := [1]) (by kernel_rfl) (by simp) ?_
            refine AllReady.cons rfl (fun K hK => ?_) AllReady.nil
            go_simp
            refine hK _ _ ?_
            clear hK K
            refine wpAny_take (i := 2) (v := ?_) rfl (by kernel_rfl) (by kernel_rfl) (by kernel_rfl) (fun _ _ _ h => h) (Or.inl ⟨by rfl, ?_⟩) ?_
            rotate_left
            · intro w
              go_simp
              (try with_reducible rfl)
            refine wpAny_take (i := 5) (v := ?_) rfl (by kernel_rfl) (by kernel_rfl) (by kernel_rfl) (fun _ _ _ h => h) (Or.inl ⟨by rfl, ?_⟩) ?_
            rotate_left
            · intro w
              go_simp
              (try with_reducible rfl)
            refine wpAny_ready (rs := [3, 6]) (by kernel_rfl) (by simp) ?_
            refine AllReady.cons rfl (fun K hK => ?_) (AllReady.cons rfl (fun K hK => ?_) AllReady.nil)
            · go_simp
              go_wp2_with (go_at_call 29; refine (HC.out _).mono ?_; rintro e w2 ⟨rfl, hs2⟩; (try simp only [Exit.inBlock, Exit.then]); exact ⟨rfl, hs2.kp, .inr ⟨_, 5, rfl, hs2.r.at_, hs2.r.le, by have := HLT.out; omega, rfl, rfl, hs2⟩⟩)
            · go_simp
              refine hK _ _ ?_
              clear hK K
              refine wpAny_ready (rs := [3]) (by kernel_rfl) (by simp) ?_
              refine AllReady.cons rfl (fun K hK => ?_) AllReady.nil
              go_simp
              go_wp2_with (go_at_call 29; refine (HC.out _).mono ?_; rintro e w2 ⟨rfl, hs2⟩; (try simp only [Exit.inBlock, Exit.then]); exact ⟨rfl, hs2.kp, .inr ⟨_, 5, rfl, hs2.r.at_, hs2.r.le, by have := HLT.out; omega, rfl, rfl, hs2⟩⟩)
        · have u3 : decide ((j : Int) < (E.n2 : Int)) = false := decide_eq_false (by omega)
          have u4 : decide (j < E.n2) = false := decide_eq_false hlt
          obtain rfl : j = E.n2 := by omega
          have hK : K = E.n1 + E.n2 := by have := HM.out; rw [HN1.out, HN2.out] at this; omega
          go_wp2
          go_end0
          exact ⟨HS1.out.kp, .inl ⟨rfl, _, HS1.out.r.at_, HS1.out.r.le, hK, by rw [hK], HS1.out⟩⟩
end Go.Proofs.Ytamnnaadnjkdiaa.Rb
