import Derived.Test.YtmoopdhnnpjcfaaDoorTkD
/-! Column: numbers that are taken. -/
namespace Go.Proofs.YtmoopdhnnpjcfaaDoor.Co
open Go.RowKit Go.Proofs.YtmoopdhnnpjcfaaDoorW.PrintWords Go.Proofs.YtmoopdhnnpjcfaaDoorW.PrintLast Go.Proofs.YtmoopdhnnpjcfaaDoorW.PrintMore Go.Proofs.YtmoopdhnnpjcfaaDoor.Wire Go.Proofs.YtmoopdhnnpjcfaaDoor.PCo Go.Proofs.YtmoopdhnnpjcfaaDoor.CoG Go.Proofs.YtmoopdhnnpjcfaaDoor.Rd
set_option linter.unusedVariables false
set_option linter.unusedSimpArgs false
set_option maxRecDepth 100000
theorem ge_or (l : List Int) (a : Nat) : ge l a = 0 ∨ ge l a ≠ 0 := by by_cases h : ge l a = 0 <;> simp [h]
set_option maxHeartbeats 8000000 in
/-- Numbers behind one, onto what is there. -/
theorem next_calls {w0 W W1 : World} {g : Nat} {A : Option Addr} {c : Nat} {l : List Int} {a : Nat} {B : Option Addr} {d : Nat} {ys : List S47} (h : Tk w0 W W1 g A c l a (.slice B ys.length d) ys) (hg : g < W.heap.size) (hy : ys.length ≤ 1) (last : Int) (n : Nat) (hn : n ≤ 1024) :
    Calls Tryd.prog 142 #[.pointer (some ⟨g, 0, none⟩), .slice B ys.length d, .int .u64 last, .int .i64 (n : Int)] W1 (Took w0 W g A c l (tnx l n a last ys)) := by
  obtain ⟨r, hr⟩ : ∃ r, tnx l n a last ys = r := ⟨_, rfl⟩
  rw [hr]
  have H := Aside0.mk h
  have HG := Aside0.mk hg
  have HR := Aside0.mk hr
  obtain ⟨y0, hy0⟩ : ∃ y0, ys.length = y0 := ⟨_, rfl⟩
  have HY0 := Aside0.mk hy0
  rw [hy0] at H hy ⊢
  clear h hr hg hy0
  go_enter Tryd.func142, Tryd.ntmps142
  go_wp2
  go_loopw [1, 2, 10] (fun v la i wr => ∃ (j a2 : Nat) (x : Int) (xs : List S47), j ≤ n ∧ i = .int .i64 (j : Int) ∧ la = .int .u64 x ∧ Aside0 (xs.length = y0 + j) ∧ Aside0 (tnx l (n - j) a2 x xs = r) ∧ Aside0 (Tk w0 W wr g A c l a2 v xs) ∧ (∃ B d, v = .slice B (y0 + j) d)) (fun _ _ i _ => n - (intOf i).toNat)
  case atStart => exact ⟨0, a, last, ys, by omega, rfl, rfl, ⟨HY0.out⟩, ⟨HR.out⟩, ⟨H.out⟩, B, d, rfl⟩
  case round =>
    obtain ⟨j, a2, x, xs, hj, rfl, rfl, HX, HT, HK, B2, d2, rfl⟩ := hrel
    clear H HR HY0
    obtain ⟨M, hM⟩ : ∃ M, y0 + j = M := ⟨_, rfl⟩
    have HMJ := Aside0.mk hM
    rw [hM] at HK HX ⊢
    clear hM
    by_cases hlt : j < n
    · have u1 : decide ((j : Int) < (n : Int)) = true := decide_eq_true (by omega)
      have u2 : decide (j < n) = true := decide_eq_true hlt
      have HLT := Aside0.mk hlt
      have hmax : (j : Int) + 1 ≤ 9223372036854775807 := by omega
      obtain ⟨m, hm⟩ : ∃ m, n - j = m + 1 := ⟨n - j - 1, by omega⟩
      have HM := Aside0.mk hm
      have HTT := HT.out
      rw [hm, tnx] at HTT
      clear hj hlt hm HT
      by_cases he : ge l a2 = 0
      · rw [if_pos he] at HTT
        obtain ⟨eg, -⟩ := g_ok HK.out.rd.by_ HK.out.rd.le he
        have HI := Aside0.mk (HK.out.rd.int_step _ _ eg)
        have HN := Aside0.mk (show nxt x (gx l a2) = IntKind.u64.wrap (x + IntKind.u64.wrap (zagS (gx l a2))) from rfl)
        obtain ⟨z, hz⟩ : ∃ z, zagS (gx l a2) = z := ⟨_, rfl⟩
        rw [hz] at HI HN
        obtain ⟨y, hy2⟩ : ∃ y, nxt x (gx l a2) = y := ⟨_, rfl⟩
        rw [hy2] at HN HTT
        obtain ⟨a3, ha3⟩ : ∃ a3, a2 + gk l a2 = a3 := ⟨_, rfl⟩
        rw [ha3] at HI HTT
        have HTN := Aside0.mk HTT
        clear eg he hz hy2 ha3 HTT
        go_wp2_with fail
        refine HI.out.mono ?_
        rintro e w2 ⟨rfl, hrd, hkp⟩
        have HK2 := Aside0.mk (HK.out.step HG.out hrd hkp)
        have HHG := Aside0.mk (show ∀ k, w2.heap.size ≤ k → W.heap.size ≤ k from fun k hk => by have := HK2.out.kp.size; omega)
        have HOB := Aside0.mk (show w0.heap.size ≤ w2.heap.size from by have := HK2.out.rd.base.size; omega)
        clear hrd hkp HI HK
        obtain ⟨Y, hY⟩ : ∃ Y, IntKind.u64.wrap (x + IntKind.u64.wrap z) = Y := ⟨_, rfl⟩
        have HY := Aside0.mk (show y = IntKind.u64.wrap (x + IntKind.u64.wrap z) from HN.out)
        clear hY HN Y
        go_wp2_with (at_builtin; refine Kd.R_append k47 (w0 := w0) w0.heap.size rfl (.tmp 17) (.tmp 20) 22 47 (.agg #[.int .u64 0, .string ⟨#[]⟩]) 24 rfl Tryd.underlying22 infoC rfl (by decide) (by decide) _ xs ⟨IntKind.u64.wrap (x + IntKind.u64.wrap z), ⟨#[]⟩⟩ [.int .u64 (IntKind.u64.wrap (x + IntKind.u64.wrap z)), .string ⟨#[]⟩] (fun k => W.heap.size ≤ k) (fun _ => False) rfl rfl (k47_mkM _ _ _ _) (fun _ h => h.elim) HHG.out HK2.out.row HK2.out.rd.base HOB.out ?aL ?_; (case aL => rw [HX.out]; have := HLT.out; have := HMJ.out; omega); intro v1 w3 hr1 hb1 hg1 hat1; rw [← HY.out] at hr1; have HK3 := Aside0.mk (HK2.out.grown HG.out hr1 hg1); obtain ⟨B3, d3, hv1⟩ := Kd.R_slice hr1; rw [List.length_append, HX.out, show M + [(⟨y, ⟨#[]⟩⟩ : S47)].length = y0 + (j + 1) from by have := HMJ.out; simp; omega] at hv1; subst hv1; clear hr1 hb1 hg1 hat1)
        rw [← HY.out]
        go_roundw
        case rel => exact ⟨j + 1, a3, y, xs ++ [⟨y, ⟨#[]⟩⟩], HLT.out, by go_num, rfl, ⟨by have := HMJ.out; rw [List.length_append, HX.out]; simp; omega⟩, ⟨by rw [show n - (j + 1) = m by have := HM.out; omega]; exact HTN.out⟩, ⟨HK3.out⟩, B3, d3, rfl⟩
        case measure => have := HLT.out; simp [intOf]; omega
      · rw [if_neg he] at HTT
        have HI := Aside0.mk (HK.out.rd.int_end _ _ _ (g_err he) he)
        obtain ⟨E, hE⟩ : ∃ E, ge l a2 = E := ⟨_, rfl⟩
        rw [hE] at HI HTT he
        have HTN := Aside0.mk HTT
        have HNE := Aside0.mk he
        clear HTT hE he
        go_wp2_with fail
        refine HI.out.mono ?_
        rintro e w2 ⟨rfl, hrd, hkp⟩
        have hfin : Took w0 W g A c l r (.panicked [ends g E]) w2 := by rw [← HTN.out]; exact .inr ⟨HNE.out, rfl, hrd, (HK.out.step HG.out hrd hkp).kp⟩
        (try simp only [Exit.inBlock, Exit.then])
        exact ⟨rfl, hfin⟩
    · have u1 : decide ((j : Int) < (n : Int)) = false := decide_eq_false (by omega)
      have u2 : decide (j < n) = false := decide_eq_false hlt
      obtain rfl : j = n := by omega
      have hres : r = (xs, a2, 0) := by
        have := HT.out
        rw [Nat.sub_self, tnx] at this
        exact this.symm
      subst hres
      clear hlt hj
      go_wp2
      go_ret
      exact .inl ⟨rfl, _, rfl, HK.out⟩
/-- Cells of a literal, as a row that is one's own. -/
theorem cells_own (W : World) (xs : List S47) (inner : List Value) (base : Nat) (hrep : ∀ w', Reps (k47.M w' base (fun _ => False)) 2 xs inner) (hm : xs.length ≤ 9223372036854775807) (hb : base ≤ W.heap.size) (ok : Nat → Prop) (hok : ok W.heap.size) :
    Kd.R k47 47 (W.alloc (.cells inner.toArray 47)) base ok (.slice (some ⟨W.heap.size, 0, none⟩) xs.length xs.length) xs := by
  have h2 := World.ownsRow_lit (base := base) (e := 47) (size := 2) W inner.toArray xs.length hb (by simpa [maxLen] using hm) (by simpa using (hrep W).1)
  refine ⟨fun k hk => ?_, inner, ?_, (hrep _).imp_ (fun p c hp => k47.M_mono (fun _ h => h.elim) hp)⟩
  · have : W.heap.size = k := Option.some.inj hk
    rw [← this]; exact hok
  · simp only [List.size_toArray] at h2
    exact (by simpa using h2 : (W.alloc (.cells inner.toArray 47)).ownsRow base 47 2 (.slice (some ⟨W.heap.size, 0, none⟩) xs.length xs.length) xs.length inner)
set_option maxHeartbeats 4000000 in
theorem takeSigned_calls {w0 W : World} {g : Nat} {A : Option Addr} {c : Nat} {l : List Int} {a : Nat} (h : Rd w0 W g A c l a) (n : Nat) (hn : n ≤ 1024) :
    Calls Tryd.prog 115 #[.pointer (some ⟨g, 0, none⟩), .int .i64 (n : Int)] W (Took w0 W g A c l (tnx l n a 0 [])) := by
  have HC := Aside0.mk (next_calls (B := none) (d := 0) (ys := []) (Tk.start h) (Tk.glt h) (by decide) 0 n hn)
  obtain ⟨r, hr⟩ : ∃ r, tnx l n a 0 [] = r := ⟨_, rfl⟩
  rw [hr] at HC ⊢
  clear h hr
  go_enter Tryd.func115, Tryd.ntmps115
  go_wp2_with fail
  refine HC.out.mono ?_
  rintro e w2 (⟨h0, v, rfl, ht⟩ | ⟨h0, rfl, hrd, hkp⟩)
  · have HT := Aside0.mk ht
    clear ht
    go_wp2
    go_ret
    exact .inl ⟨h0, v, rfl, HT.out⟩
  · have hfin : Took w0 W g A c l r (.panicked [ends g r.2.2]) w2 := .inr ⟨h0, rfl, hrd, hkp⟩
    (try simp only [Exit.inBlock, Exit.then])
    exact ⟨rfl, hfin⟩
set_option maxHeartbeats 4000000 in
theorem takeNumbers_calls {w0 W : World} {g : Nat} {A : Option Addr} {c : Nat} {l : List Int} {a : Nat} (h : Rd w0 W g A c l a) (n : Nat) (hn : n ≤ 1024) :
    Calls Tryd.prog 113 #[.pointer (some ⟨g, 0, none⟩), .int .i64 (n : Int)] W (Took w0 W g A c l (tnum l n a)) := by
  by_cases hn0 : n = 0
  · have hr : tnum l n a = ([], a, 0) := by rw [tnum, if_pos hn0]
    rw [hr]
    have z1 : ((n : Int) == 0) = true := by rw [hn0]; rfl
    have z2 : decide ((n : Int) = 0) = true := decide_eq_true (by omega)
    have z3 : decide (n = 0) = true := decide_eq_true hn0
    have H := Aside0.mk (Tk.start h)
    clear hn0 hr h
    go_enter Tryd.func113, Tryd.ntmps113
    go_wp2
    go_ret
    exact .inl ⟨rfl, _, rfl, H.out⟩
  · have z1 : ((n : Int) == 0) = false := beq_eq_false_iff_ne.mpr (by omega)
    have z2 : decide ((n : Int) = 0) = false := decide_eq_false (by omega)
    have z3 : decide (n = 0) = false := decide_eq_false hn0
    have HGL := Aside0.mk (Tk.glt h)
    have HST := Aside0.mk (Tk.start h)
    by_cases he : ge l a = 0
    · have hr : tnum l n a = tnx l (n - 1) (a + gk l a) (gx l a) [⟨gx l a, e0⟩] := by rw [tnum, if_neg hn0, if_pos he]
      rw [hr]
      obtain ⟨eg, hx0, hx1, -⟩ := g_ok h.by_ h.le he
      have HI := Aside0.mk (h.uint_step 18446744073709551615 _ _ eg (by omega))
      obtain ⟨x, hx⟩ : ∃ x, gx l a = x := ⟨_, rfl⟩
      obtain ⟨a3, ha3⟩ : ∃ a3, a + gk l a = a3 := ⟨_, rfl⟩
      rw [hx] at HI ⊢
      rw [ha3] at HI ⊢
      obtain ⟨m, hm⟩ : ∃ m, n - 1 = m := ⟨_, rfl⟩
      have hmi : (n : Int) - 1 = (m : Int) := by omega
      have hmb : m ≤ 1024 := by omega
      rw [hm]
      clear hn0 he hr eg hx0 hx1 hx ha3 h hm
      obtain ⟨r, hr⟩ : ∃ r, tnx l m a3 x [⟨x, e0⟩] = r := ⟨_, rfl⟩
      have HR := Aside0.mk hr
      rw [hr]
      clear hr
      go_enter Tryd.func113, Tryd.ntmps113
      go_wp2_with fail
      refine HI.out.mono ?_
      rintro e w2 ⟨rfl, hrd, hkp⟩
      have hk2 := HST.out.step HGL.out hrd hkp
      have hrow := cells_own w2 [(⟨x, e0⟩ : S47)] [.int .u64 x, .string e0] w0.heap.size (fun w' => Reps.c2 (k47_mkM _ _ _ _) (Reps.none _ _)) (by simp) (by have := hrd.base.size; omega) (fun k => W.heap.size ≤ k) hk2.kp.size
      have hbl := below_alloc (Below.refl w2.heap.size w2) (.cells #[.int .u64 x, .string e0] 47)
      have hk3 : Tk w0 W (w2.alloc (.cells #[.int .u64 x, .string e0] 47)) g A c l a3 (.slice (some ⟨w2.heap.size, 0, none⟩) 1 1) [⟨x, e0⟩] := ⟨hk2.rd.below hbl, hk2.kp.below hbl, hrow⟩
      have HC := Aside0.mk (next_calls (ys := [(⟨x, e0⟩ : S47)]) hk3 HGL.out (Nat.le_refl _) x m hmb)
      rw [HR.out] at HC
      clear hrd hkp hk2 hrow hbl hk3 HI HST
      go_wp2_with fail
      refine HC.out.mono ?_
      rintro e w4 (⟨h0, v, rfl, ht⟩ | ⟨h0, rfl, hrd, hkp⟩)
      · have HT := Aside0.mk ht
        clear ht
        go_wp2
        go_ret
        exact .inl ⟨h0, v, rfl, HT.out⟩
      · have hfin : Took w0 W g A c l r (.panicked [ends g r.2.2]) w4 := .inr ⟨h0, rfl, hrd, hkp⟩
        (try simp only [Exit.inBlock, Exit.then])
        exact ⟨rfl, hfin⟩
    · have hr : tnum l n a = ([], a, ge l a) := by rw [tnum, if_neg hn0, if_neg he]
      rw [hr]
      have HI := Aside0.mk (h.uint_end 18446744073709551615 _ _ _ (g_err he) (.inl he))
      rw [if_neg he] at HI
      obtain ⟨E, hE⟩ : ∃ E, ge l a = E := ⟨_, rfl⟩
      rw [hE] at HI he ⊢
      have HNE := Aside0.mk he
      clear hn0 he hr hE h
      go_enter Tryd.func113, Tryd.ntmps113
      go_wp2_with fail
      refine HI.out.mono ?_
      rintro e w2 ⟨rfl, hrd, hkp⟩
      have hfin : Took w0 W g A c l ([], a, E) (.panicked [ends g E]) w2 := .inr ⟨HNE.out, rfl, hrd, hkp⟩
      (try simp only [Exit.inBlock, Exit.then])
      exact ⟨rfl, hfin⟩
end Go.Proofs.YtmoopdhnnpjcfaaDoor.Co
