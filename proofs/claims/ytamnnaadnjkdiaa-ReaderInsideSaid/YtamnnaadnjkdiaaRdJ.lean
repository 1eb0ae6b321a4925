import Derived.Test.YtamnnaadnjkdiaaRdH
namespace Go.Proofs.Ytamnnaadnjkdiaa.Rd
open Go.RowKit Go.Proofs.YtamnnaadnjkdiaaW.PrintWords Go.Proofs.YtamnnaadnjkdiaaW.PrintLast Go.Proofs.YtamnnaadnjkdiaaW.PrintMore Go.Proofs.Ytamnnaadnjkdiaa.Wire Go.Proofs.Ytamnnaadnjkdiaa.PWi Go.Proofs.Ytamnnaadnjkdiaa.WiG
set_option linter.unusedVariables false
set_option linter.unusedSimpArgs false
set_option maxRecDepth 100000

theorem new_at {w : World} {o : Obj} {k : Nat} (h : k = w.heap.size) : (w.alloc o).heap[k]? = some o := by subst h; exact heap_alloc_new w o
/-! ### ReaderInside -/
/-- How many bytes the inner one takes, and by what it ends. -/
def inAt (n e : Int) (L : Nat) : Nat × Int := if n.toNat % 10 ≤ L then (n.toNat % 10, 1 + e % 17) else (L, 5)
set_option maxHeartbeats 2000000 in
theorem inside_inner {w0 W : World} {g bn be : Nat} {A : Option Addr} {c : Nat} {l : List Int} {n e : Int} (h : Rd w0 W g A c l 0) (hn : W.heap[bn]? = some (.cells #[.int .u8 n] 5 (0, 0))) (he : W.heap[be]? = some (.cells #[.int .u8 e] 5 (0, 0)))
    (hn0 : 0 ≤ n) (hn1 : n < 256) (he0 : 0 ≤ e) (he1 : e < 256) (ngn : bn ≠ g) (nge : be ≠ g) :
    Calls Try.prog 20 (#[.pointer (some ⟨g, 0, none⟩)] ++ #[.pointer (some ⟨bn, 0, none⟩), .pointer (some ⟨be, 0, none⟩)]) W (Left_ (fun k => False) g A l.length c W (fun a w' => False) (fun a er w' => (a, er) = inAt n e l.length)) := by
  obtain ⟨m, rfl⟩ := Int.eq_ofNat_of_zero_le hn0
  have HE := Aside0.mk he
  have cn : W.cell? ⟨bn, 0, none⟩ = some (.int .u8 (m : Int)) := (blk_cell hn 0).trans rfl
  have hl := h.len
  have hm : m < 256 := by omega
  have hl2 : l.length ≤ 9223372036854775807 := by omega
  clear hn he
  go_enter Try.func20, Try.ntmps20
  go_wp2
  go_loopw [6] (fun i wr => ∃ j : Nat, j ≤ m % 10 ∧ j ≤ l.length ∧ i = .int .u8 (j : Int) ∧ Rd w0 wr g A c l j ∧ Kp (fun k => k = g) W wr) (fun i _ => m % 10 - (intOf i).toNat)
  case atStart => exact ⟨0, by omega, by omega, rfl, h, Kp.refl _ _⟩
  case round =>
    obtain ⟨j, hj, hjl, rfl, hr, hk⟩ := hrel
    by_cases hlt : j < m % 10
    · have t1 : decide ((j : Int) < ((m : Int) % 10)) = true := decide_eq_true (by omega)
      by_cases hin : j < l.length
      · go_wp2_with fail
        refine (hr.byte_step hin).mono ?_
        rintro e' w2 ⟨rfl, h2, k2⟩
        go_wp2
        go_roundw
        case rel => exact ⟨j + 1, by omega, by omega, by go_num, h2, hk.trans k2⟩
        case measure => simp [intOf]; omega
      · obtain rfl : j = l.length := by omega
        go_wp2_with fail
        refine hr.byte_end.mono ?_
        rintro e' w2 ⟨rfl, h2, k2⟩
        (try simp only [Exit.inBlock, Exit.then])
        refine ⟨rfl, ((hk.trans k2).mono (fun k z => .inl z)), .inr ⟨l.length, 5, rfl, h2.at_, Nat.le_refl _, ?_⟩⟩
        unfold inAt
        rw [if_neg (by simp; omega)]
    · have t1 : decide ((j : Int) < ((m : Int) % 10)) = false := decide_eq_false (by omega)
      obtain rfl : j = m % 10 := by omega
      have ce : wr.cell? ⟨be, 0, none⟩ = some (.int .u8 e) := (blk_cell (hk.blk HE.out nge) 0).trans rfl
      go_wp2_with fail
      refine (hr.must_end (1 + e % 17) (by omega)).mono ?_
      rintro e' w2 ⟨rfl, h2, k2⟩
      (try simp only [Exit.inBlock, Exit.then])
      refine ⟨rfl, ((hk.trans k2).mono (fun k z => .inl z)), .inr ⟨m % 10, 1 + e % 17, rfl, h2.at_, hjl, ?_⟩⟩
      unfold inAt
      rw [if_pos (by simp; omega)]
      simp
/-- The variables that the outer one knows. -/
structure InVars (W : World) (b1 bn be bi bs bw b0 : Nat) (A1 A0 : Option Addr) (c1 c0 : Nat) (l1 l0 : List Int) (n e i s : Int) (went : Bool) : Prop where
  b : W.heap[b1]? = some (.cells #[.slice A1 l1.length c1] 22 (0, 0))
  n : W.heap[bn]? = some (.cells #[.int .u8 n] 5 (0, 0))
  e : W.heap[be]? = some (.cells #[.int .u8 e] 5 (0, 0))
  i : W.heap[bi]? = some (.cells #[.int .i64 i] 3 (0, 0))
  s : W.heap[bs]? = some (.cells #[.int .i64 s] 24 (0, 0))
  w : W.heap[bw]? = some (.cells #[.bool went] 4 (0, 0))
  a : W.heap[b0]? = some (.cells #[.slice A0 l0.length c0] 22 (0, 0))
theorem InVars.keep {W W' : World} {b1 bn be bi bs bw b0 : Nat} {A1 A0 : Option Addr} {c1 c0 : Nat} {l1 l0 : List Int} {n e i s : Int} {went : Bool} (h : InVars W b1 bn be bi bs bw b0 A1 A0 c1 c0 l1 l0 n e i s went) {S : Nat → Prop} (hk : Kp S W W')
    (h1 : ¬ S b1) (h2 : ¬ S bn) (h3 : ¬ S be) (h4 : ¬ S bi) (h5 : ¬ S bs) (h6 : ¬ S bw) (h7 : ¬ S b0) : InVars W' b1 bn be bi bs bw b0 A1 A0 c1 c0 l1 l0 n e i s went :=
  ⟨hk.blk h.b h1, hk.blk h.n h2, hk.blk h.e h3, hk.blk h.i h4, hk.blk h.s h5, hk.blk h.w h6, hk.blk h.a h7⟩
set_option maxHeartbeats 4000000 in
theorem inside_outer {w0 W : World} {g b1 bn be bi bs bw b0 : Nat} {A1 A0 : Option Addr} {c1 c0 : Nat} {l1 l0 : List Int} {n e : Int} (h : Rd w0 W g A0 c0 l0 0) (hv : InVars W b1 bn be bi bs bw b0 A1 A0 c1 c0 l1 l0 n e 0 0 false)
    (hr1 : Kd.C (Kd.int .u8) w0 A1 l1.length l1) (hc1 : l1.length ≤ c1) (hb1 : Bytes l1) (hl1 : l1.length ≤ 500)
    (hn0 : 0 ≤ n) (hn1 : n < 256) (he0 : 0 ≤ e) (he1 : e < 256) (ng : b1 ≠ g ∧ bn ≠ g ∧ be ≠ g ∧ bi ≠ g ∧ bs ≠ g ∧ bw ≠ g ∧ b0 ≠ g) (hold : w0.heap.size ≤ bi ∧ w0.heap.size ≤ bs ∧ w0.heap.size ≤ bw) :
    Calls Try.prog 19 (#[.pointer (some ⟨g, 0, none⟩)] ++ #[.pointer (some ⟨b1, 0, none⟩), .pointer (some ⟨bn, 0, none⟩), .pointer (some ⟨be, 0, none⟩), .pointer (some ⟨bi, 0, none⟩), .pointer (some ⟨bs, 0, none⟩), .pointer (some ⟨bw, 0, none⟩), .pointer (some ⟨b0, 0, none⟩)]) W
      (Left_ (fun k => k = bi ∨ k = bs ∨ k = bw) g A0 l0.length c0 W (fun a w' => a = l0.length ∧ InVars w' b1 bn be bi bs bw b0 A1 A0 c1 c0 l1 l0 n e ((inAt n e l1.length).1 : Int) (inAt n e l1.length).2 true) (fun a er w' => False)) := by
  have hcf : ∀ args w, (callFunc 20 args).run Try.prog w = .ok (.enter 20 args) w := fun _ _ => by kernel_rfl
  have HC1 := Aside0.mk hcf
  clear hcf
  have hmf := hmf
  have cb : W.cell? ⟨b1, 0, none⟩ = some (.slice A1 l1.length c1) := (blk_cell hv.b 0).trans rfl
  have HV := Aside0.mk hv
  have HNG := Aside0.mk ng
  have hl := h.len
  have hl2 : l0.length ≤ 9223372036854775807 := by omega
  clear hv ng
  go_enter Try.func19, Try.ntmps19
  go_wp2_with fail
  refine (run_rd (w0 := w0) (l := l1) (fun k => False) (fun g h a w' => False) (fun _ _ a er w' => (a, er) = inAt n e l1.length) h.base hr1 hc1 hb1 (by omega) (fun k z => z.elim) HC1.out ?_).mono ?_
  · intro g2 W1 hr hb h1 h2
    exact inside_inner hr (blk_below HV.out.n hb) (blk_below HV.out.e hb) hn0 hn1 he0 he1 (fun z => by have := blk_lt HV.out.n; omega) (fun z => by have := blk_lt HV.out.e; omega)
  rintro e' w2 ⟨g2, h1, a, er, w3, rfl, hg1, hg2, hg3, hkA, hkB, hat, ha, hcase⟩
  have hae := hcase.resolve_left (fun z => z.1)
  clear hcase hkB hat hg1 hg2 hg3
  have ea : a = (inAt n e l1.length).1 := congrArg Prod.fst hae
  have ee : er = (inAt n e l1.length).2 := congrArg Prod.snd hae
  clear hae
  rw [ea, ee]
  obtain ⟨a2, ha2⟩ : ∃ x, (inAt n e l1.length).1 = x := ⟨_, rfl⟩
  obtain ⟨er2, he2⟩ : ∃ x, (inAt n e l1.length).2 = x := ⟨_, rfl⟩
  rw [ha2, he2]
  have HA2 := Aside0.mk ha2
  have HE2 := Aside0.mk he2
  clear ea ee ha ha2 he2
  have hv2 := HV.out.keep hkA (fun z => z) (fun z => z) (fun z => z) (fun z => z) (fun z => z) (fun z => z) (fun z => z)
  have hr2 := h.keep hkA (fun k z => z.elim)
  have ci : w2.cell? ⟨bi, 0, none⟩ = some (.int .i64 0) := (blk_cell hv2.i 0).trans rfl
  have cs : w2.cell? ⟨bs, 0, none⟩ = some (.int .i64 0) := (blk_cell hv2.s 0).trans rfl
  have cw : w2.cell? ⟨bw, 0, none⟩ = some (.bool false) := (blk_cell hv2.w 0).trans rfl
  have fi := blk_frozen hv2.i 0
  have fs := blk_frozen hv2.s 0
  have fw := blk_frozen hv2.w 0
  have n1 : ¬ bi = bs := fun z => blk_ne hv2.i hv2.s (by decide) z
  have n2 : ¬ bi = bw := fun z => blk_ne hv2.i hv2.w (by decide) z
  have n3 : ¬ bs = bw := fun z => blk_ne hv2.s hv2.w (by decide) z
  have n1' : ¬ bs = bi := fun z => n1 z.symm
  have n2' : ¬ bw = bi := fun z => n2 z.symm
  have n3' : ¬ bw = bs := fun z => n3 z.symm
  have HV2 := Aside0.mk hv2
  have HR2 := Aside0.mk hr2
  have HKA := Aside0.mk hkA
  clear hv2 hr2 hkA HV h cb
  go_wp2
  go_loopg [16] (l0.length + 1) (fun gk v16 wr => ∃ j : Nat, Aside0 (j ≤ l0.length) ∧ Aside0 (l0.length - j < gk) ∧ Aside0 (Rd w0 wr g A0 c0 l0 j) ∧ Aside0 (InVars wr b1 bn be bi bs bw b0 A1 A0 c1 c0 l1 l0 n e (a2 : Int) er2 true) ∧ Aside0 (Kp (fun k => k = g ∨ k = bi ∨ k = bs ∨ k = bw) W wr))
  case atStart =>
    have hk3 : Kp (fun k => k = bi ∨ k = bs ∨ k = bw) w2 (((w2.setCell ⟨bi, 0, none⟩ (.int .i64 (a2 : Int))).setCell ⟨bs, 0, none⟩ (.int .i64 er2)).setCell ⟨bw, 0, none⟩ (.bool true)) :=
      (((Kp.refl _ w2).setCell (p := ⟨bi, 0, none⟩) (.inl (.inl rfl)) _).setCell (p := ⟨bs, 0, none⟩) (.inl (.inr (.inl rfl))) _).setCell (p := ⟨bw, 0, none⟩) (.inl (.inr (.inr rfl))) _
    have hv3 := HV2.out
    refine ⟨0, ⟨by omega⟩, ⟨by omega⟩, ⟨HR2.out.keep hk3 ?_⟩, ⟨⟨?_, ?_, ?_, ?_, ?_, ?_, ?_⟩⟩, ⟨(HKA.out.mono (fun k z => z.elim)).trans (hk3.mono (fun k z => .inr z))⟩⟩
    · rintro k (rfl | rfl | rfl)
      · exact ⟨hold.1, HNG.out.2.2.2.1⟩
      · exact ⟨hold.2.1, HNG.out.2.2.2.2.1⟩
      · exact ⟨hold.2.2, HNG.out.2.2.2.2.2.1⟩
    · exact hk3.blk hv3.b (by rintro (z | z | z) <;> exact blk_ne hv3.b (by first | exact hv3.i | exact hv3.s | exact hv3.w) (by decide) z)
    · exact hk3.blk hv3.n (by rintro (z | z | z) <;> exact blk_ne hv3.n (by first | exact hv3.i | exact hv3.s | exact hv3.w) (by decide) z)
    · exact hk3.blk hv3.e (by rintro (z | z | z) <;> exact blk_ne hv3.e (by first | exact hv3.i | exact hv3.s | exact hv3.w) (by decide) z)
    · exact blk_far (p := ⟨bw, 0, none⟩) (blk_far (p := ⟨bs, 0, none⟩) (blk_put hv3.i 0 _ rfl) n1 _) n2 _
    · exact blk_far (p := ⟨bw, 0, none⟩) (blk_put (blk_far (p := ⟨bi, 0, none⟩) hv3.s n1' _) 0 _ rfl) n3 _
    · exact blk_put (blk_far (p := ⟨bs, 0, none⟩) (blk_far (p := ⟨bi, 0, none⟩) hv3.w n2' _) n3' _) 0 _ rfl
    · exact hk3.blk hv3.a (by rintro (z | z | z) <;> exact blk_ne hv3.a (by first | exact hv3.i | exact hv3.s | exact hv3.w) (by decide) z)
  case round =>
    obtain ⟨j, HJ, HG, HR, HVj, HK⟩ := hrel
    clear HV2 HR2 HKA ci cs cw fi fs fw n1 n2 n3 n1' n2' n3'
    have HLF := left_calls HR.out.at_ HJ.out hl2
    by_cases hlt : j < l0.length
    · obtain ⟨g', rfl⟩ : ∃ g', gk = g' + 1 := ⟨gk - 1, by have := HG.out; omega⟩
      obtain ⟨d, hd⟩ : ∃ d, l0.length - j = d := ⟨_, rfl⟩
      rw [hd] at HLF
      have hd0 : 0 < d := by omega
      have t1 : decide ((0 : Int) < (d : Int)) = true := decide_eq_true (by omega)
      have HD := Aside0.mk hd
      have HLT := Aside0.mk hlt
      have HLF := Aside0.mk HLF
      clear hd hlt
      go_wp2_with fail
      refine HLF.out.mono ?_
      rintro e' w4 ⟨rfl, m, rfl⟩
      have HR4 := Aside0.mk (HR.out.keep (S := fun _ => False) ((Kp.refl _ wr).drewN m) (fun k z => z.elim))
      go_wp2_with fail
      refine (HR4.out.byte_step HLT.out).mono ?_
      rintro e' w5 ⟨rfl, h5, k5⟩
      have HR5 := Aside0.mk h5
      have HK5 := Aside0.mk k5
      have hkk : Kp (fun k => k = g) wr w5 := ((Kp.refl _ wr).drewN m).trans k5
      have HV5 := Aside0.mk (HVj.out.keep hkk HNG.out.1 HNG.out.2.1 HNG.out.2.2.1 HNG.out.2.2.2.1 HNG.out.2.2.2.2.1 HNG.out.2.2.2.2.2.1 HNG.out.2.2.2.2.2.2)
      have HKK := Aside0.mk (HK.out.trans (hkk.mono (fun k z => .inl z)))
      have ca : w5.cell? ⟨b0, 0, none⟩ = some (.slice A0 l0.length c0) := (blk_cell HV5.out.a 0).trans rfl
      have HAT := Aside0.mk (show ∀ q, Calls Try.prog 22 #[.pointer (some ⟨g, 0, none⟩)] (w5.drewN q) (fun e w' => e = .returned (.int .i64 ((j + 1 : Nat) : Int)) ∧ w' = w5.drewN q) from fun q => (at_calls (HR5.out.at_.drewN q)).mono (fun e w' z => ⟨by rw [z.1]; simp, z.2.symm⟩))
      have t2 : decide ((l0.length : Int) < ((j + 1 : Nat) : Int)) = false := decide_eq_false (by have := HLT.out; omega)
      have t4 : decide ((l0.length : Int) < (j : Int) + 1) = false := decide_eq_false (by have := HLT.out; omega)
      have t3 : decide (l0.length < j + 1) = false := decide_eq_false (by have := HLT.out; omega)
      clear h5 k5 hkk HK HVj HR HLF HR4
      go_wp2
      go_quiet ((go_at_call 22; exact Calls.quiet_of_same (HAT.out _)))
      go_wp2
      go_roundg g'
      case measure => omega
      case rel =>
        exact ⟨j + 1, ⟨HLT.out⟩, ⟨by have := HG.out; have := HLT.out; omega⟩, ⟨HR5.out.keep (S := fun _ => False) ((Kp.refl _ w5).drewN _) (fun k z => z.elim)⟩, ⟨HV5.out.keep (S := fun _ => False) ((Kp.refl _ w5).drewN _) (fun z => z) (fun z => z) (fun z => z) (fun z => z) (fun z => z) (fun z => z) (fun z => z)⟩, ⟨HKK.out.drewN _⟩⟩
    · obtain ⟨d, hd⟩ : ∃ d, l0.length - j = d := ⟨_, rfl⟩
      rw [hd] at HLF
      obtain rfl : j = l0.length := by have := HJ.out; omega
      obtain rfl : d = 0 := by omega
      have HLF := Aside0.mk HLF
      clear hd hlt
      go_wp2_with fail
      refine HLF.out.mono ?_
      rintro e' w4 ⟨rfl, m, rfl⟩
      go_wp2
      (try simp only [Exit.inBlock, Exit.then])
      go_end0
      have k4 : Kp (fun _ => False) wr (wr.drewN m) := (Kp.refl _ wr).drewN m
      refine ⟨HK.out.drewN m, .inl ⟨rfl, l0.length, HR.out.at_.drewN m, Nat.le_refl _, rfl, ?_⟩⟩
      rw [HA2.out, HE2.out]
      exact HVj.out.keep k4 (fun z => z) (fun z => z) (fun z => z) (fun z => z) (fun z => z) (fun z => z) (fun z => z)
theorem inside_run {w w1 : World} {A0 A1 : Option Addr} {c0 c1 bn be : Nat} {l0 l1 : List Int} {n e : Int} (hr0 : Kd.C (Kd.int .u8) w A0 l0.length l0) (hc0 : l0.length ≤ c0) (hb0 : Bytes l0) (hl0 : l0.length ≤ 500) (hr1 : Kd.C (Kd.int .u8) w A1 l1.length l1) (hc1 : l1.length ≤ c1) (hb1 : Bytes l1) (hl1 : l1.length ≤ 500)
    (hn0 : 0 ≤ n) (hn1 : n < 256) (he0 : 0 ≤ e) (he1 : e < 256) (hB : Below w.heap.size w w1) (hsz : w.heap.size + 5 ≤ w1.heap.size)
    (f0 : w1.heap[w.heap.size]? = some (.cells #[.slice A0 l0.length c0] 22 (0, 0))) (f1 : w1.heap[w.heap.size + 1]? = some (.cells #[.slice A1 l1.length c1] 22 (0, 0)))
    (fn : w1.heap[bn]? = some (.cells #[.int .u8 n] 5 (0, 0))) (fe : w1.heap[be]? = some (.cells #[.int .u8 e] 5 (0, 0))) :
    Calls Try.prog 15 #[.slice A0 l0.length c0, .func (.func 19) #[] #[.pointer (some ⟨w.heap.size + 1, 0, none⟩), .pointer (some ⟨bn, 0, none⟩), .pointer (some ⟨be, 0, none⟩), .pointer (some ⟨w1.heap.size, 0, none⟩), .pointer (some ⟨w1.heap.size + 1, 0, none⟩), .pointer (some ⟨w1.heap.size + 1 + 1, 0, none⟩), .pointer (some ⟨w.heap.size, 0, none⟩)]]
      (((w1.alloc (.cells #[.int .i64 0] 3)).alloc (.cells #[.int .i64 0] 24)).alloc (.cells #[.bool false] 4)) fun e' w' => e' = .returned (.tuple #[.int .i64 (l0.length : Int), .int .i64 0]) ∧ Below w.heap.size w w' ∧
        InVars w' (w.heap.size + 1) bn be w1.heap.size (w1.heap.size + 1) (w1.heap.size + 1 + 1) w.heap.size A1 A0 c1 c0 l1 l0 n e ((inAt n e l1.length).1 : Int) (inAt n e l1.length).2 true := by
  have hcf : ∀ args w, (callFunc 19 args).run Try.prog w = .ok (.enter 19 args) w := fun _ _ => by kernel_rfl
  have hbn := blk_lt fn
  have hbe := blk_lt fe
  have hW : InVars (((w1.alloc (.cells #[.int .i64 0] 3)).alloc (.cells #[.int .i64 0] 24)).alloc (.cells #[.bool false] 4)) (w.heap.size + 1) bn be w1.heap.size (w1.heap.size + 1) (w1.heap.size + 1 + 1) w.heap.size A1 A0 c1 c0 l1 l0 n e 0 0 false :=
    ⟨blk_alloc (blk_alloc (blk_alloc f1 _) _) _, blk_alloc (blk_alloc (blk_alloc fn _) _) _, blk_alloc (blk_alloc (blk_alloc fe _) _) _, blk_alloc (blk_alloc (new_at rfl) _) _, blk_alloc (new_at (by simp)) _, new_at (by simp), blk_alloc (blk_alloc (blk_alloc f0 _) _) _⟩
  have hB3 : Below w.heap.size w (((w1.alloc (.cells #[.int .i64 0] 3)).alloc (.cells #[.int .i64 0] 24)).alloc (.cells #[.bool false] 4)) := below_alloc (below_alloc (below_alloc hB _) _) _
  have hS : (((w1.alloc (.cells #[.int .i64 0] 3)).alloc (.cells #[.int .i64 0] 24)).alloc (.cells #[.bool false] 4)).heap.size = w1.heap.size + 3 := by simp
  refine (run_rd (w0 := w) (l := l0) (fun k => k = w1.heap.size ∨ k = w1.heap.size + 1 ∨ k = w1.heap.size + 1 + 1) (fun _ _ a w' => a = l0.length ∧ InVars w' (w.heap.size + 1) bn be w1.heap.size (w1.heap.size + 1) (w1.heap.size + 1 + 1) w.heap.size A1 A0 c1 c0 l1 l0 n e ((inAt n e l1.length).1 : Int) (inAt n e l1.length).2 true) (fun _ _ a er w' => False) hB3 hr0 hc0 hb0 (by omega) (fun k z => by rw [hS]; omega) hcf ?_).mono ?_
  · intro g W1 hr hb h1 h2
    rw [hS] at h1
    exact inside_outer hr (hW.keep (Kp.of_below hb (fun _ => False)) (fun z => z) (fun z => z) (fun z => z) (fun z => z) (fun z => z) (fun z => z) (fun z => z)) hr1 hc1 hb1 hl1 hn0 hn1 he0 he1 ⟨by omega, by omega, by omega, by omega, by omega, by omega, by omega⟩ ⟨by omega, by omega, by omega⟩
  · rintro e' w2 ⟨g, h1, a, er, w3, rfl, hg1, hg2, hg3, hkA, hkB, hat, ha, hcase⟩
    obtain ⟨⟨rfl, hv⟩, her⟩ := hcase.resolve_right id
    rw [if_neg (by omega)] at her
    subst her
    rw [hS] at hg1
    refine ⟨rfl, hkA.to_below hB3 (fun k z => by omega), hv.keep hkB ?_ ?_ ?_ ?_ ?_ ?_ ?_⟩ <;> (rintro ⟨z, _⟩; rw [hS] at z; omega)
set_option maxHeartbeats 4000000 in
theorem readerInside_calls (A0 A1 : Option Addr) (c0 c1 : Nat) (l0 l1 : List Int) (n e : Int) (w : World) (hr0 : Kd.C (Kd.int .u8) w A0 l0.length l0) (hc0 : l0.length ≤ c0) (hb0 : Bytes l0) (hr1 : Kd.C (Kd.int .u8) w A1 l1.length l1) (hc1 : l1.length ≤ c1) (hb1 : Bytes l1)
    (hn0 : 0 ≤ n) (hn1 : n < 256) (he0 : 0 ≤ e) (he1 : e < 256) :
    Calls Try.prog 4 #[.slice A0 l0.length c0, .slice A1 l1.length c1, .agg #[.int .u8 n, .int .u8 e]] w fun e w' => e = .returned (.bool true) ∧ Below w.heap.size w w' := by
  have hcf : ∀ args w, (callFunc 19 args).run Try.prog w = .ok (.enter 19 args) w := fun _ _ => by kernel_rfl
  have HC1 := Aside0.mk hcf
  clear hcf
  have hmf := hmf
  have HR0 := Aside0.mk hr0
  have HR1 := Aside0.mk hr1
  have HB0 := Aside0.mk hb0
  have HB1 := Aside0.mk hb1
  have hl0 : l0.length ≤ 9223372036854775807 := hr0.2.1
  have hl1 : l1.length ≤ 9223372036854775807 := hr1.2.1
  clear hr0 hr1 hb0 hb1
  by_cases h0 : 500 < l0.length
  · have t1 : decide ((500 : Int) < (l0.length : Int)) = true := decide_eq_true (by omega)
    have t2 : decide (500 < l0.length) = true := decide_eq_true h0
    go_enter Try.func4, Try.ntmps4
    go_wp2
    go_region
    all_goals
      go_wp2_with fail
      refine (alive_calls _).mono ?_
      rintro e' w1 ⟨rfl, b1⟩
      have f0 : w1.heap[w.heap.size]? = some (.cells #[.slice A0 l0.length c0] 22 (0, 0)) := blk_below (by repeat (first | exact new_at (by simp) | refine blk_drew ?_ | refine blk_alloc ?_ _)) b1
      have f1 : w1.heap[w.heap.size + 1]? = some (.cells #[.slice A1 l1.length c1] 22 (0, 0)) := blk_below (by repeat (first | exact new_at (by simp) | refine blk_drew ?_ | refine blk_alloc ?_ _)) b1
      have HB := Aside0.mk (show Below w.heap.size w w1 from below_step (by repeat (first | exact Below.refl _ _ | apply below_alloc | apply below_drew1)) b1)
      have HSZ := Aside0.mk (show w.heap.size + 5 ≤ w1.heap.size from by have := b1.size; simp at this; omega)
      have c0' : w1.cell? ⟨w.heap.size, 0, none⟩ = some (.slice A0 l0.length c0) := (blk_cell f0 0).trans rfl
      have c1' : w1.cell? ⟨w.heap.size + 1, 0, none⟩ = some (.slice A1 l1.length c1) := (blk_cell f1 0).trans rfl
      clear f0 f1 b1
      go_wp2_with fail
      refine (alive_calls _).mono ?_
      rintro e' w2 ⟨rfl, b2⟩
      go_wp2
      go_ret
      exact ⟨rfl, below_step HB.out b2⟩
  have t1 : decide ((500 : Int) < (l0.length : Int)) = false := decide_eq_false (by omega)
  have t2 : decide (500 < l0.length) = false := decide_eq_false h0
  by_cases h1 : 500 < l1.length
  · have t3 : decide ((500 : Int) < (l1.length : Int)) = true := decide_eq_true (by omega)
    have t4 : decide (500 < l1.length) = true := decide_eq_true h1
    go_enter Try.func4, Try.ntmps4
    go_wp2
    go_region
    all_goals
      go_wp2_with fail
      refine (alive_calls _).mono ?_
      rintro e' w1 ⟨rfl, b1⟩
      have f0 : w1.heap[w.heap.size]? = some (.cells #[.slice A0 l0.length c0] 22 (0, 0)) := blk_below (by repeat (first | exact new_at (by simp) | refine blk_drew ?_ | refine blk_alloc ?_ _)) b1
      have f1 : w1.heap[w.heap.size + 1]? = some (.cells #[.slice A1 l1.length c1] 22 (0, 0)) := blk_below (by repeat (first | exact new_at (by simp) | refine blk_drew ?_ | refine blk_alloc ?_ _)) b1
      have HB := Aside0.mk (show Below w.heap.size w w1 from below_step (by repeat (first | exact Below.refl _ _ | apply below_alloc | apply below_drew1)) b1)
      have HSZ := Aside0.mk (show w.heap.size + 5 ≤ w1.heap.size from by have := b1.size; simp at this; omega)
      have c0' : w1.cell? ⟨w.heap.size, 0, none⟩ = some (.slice A0 l0.length c0) := (blk_cell f0 0).trans rfl
      have c1' : w1.cell? ⟨w.heap.size + 1, 0, none⟩ = some (.slice A1 l1.length c1) := (blk_cell f1 0).trans rfl
      clear f0 f1 b1
      go_wp2_with fail
      refine (alive_calls _).mono ?_
      rintro e' w2 ⟨rfl, b2⟩
      go_wp2
      go_ret
      exact ⟨rfl, below_step HB.out b2⟩
  · have t3 : decide ((500 : Int) < (l1.length : Int)) = false := decide_eq_false (by omega)
    have t4 : decide (500 < l1.length) = false := decide_eq_false h1
    have HL0 := Aside0.mk (show l0.length ≤ 500 by omega)
    have HL1 := Aside0.mk (show l1.length ≤ 500 by omega)
    go_enter Try.func4, Try.ntmps4
    go_wp2
    go_region
    · go_wp2_with fail
      refine (alive_calls _).mono ?_
      rintro e' w1 ⟨rfl, b1⟩
      have f0 : w1.heap[w.heap.size]? = some (.cells #[.slice A0 l0.length c0] 22 (0, 0)) := blk_below (by repeat (first | exact new_at (by simp) | refine blk_drew ?_ | refine blk_alloc ?_ _)) b1
      have f1 : w1.heap[w.heap.size + 1]? = some (.cells #[.slice A1 l1.length c1] 22 (0, 0)) := blk_below (by repeat (first | exact new_at (by simp) | refine blk_drew ?_ | refine blk_alloc ?_ _)) b1
      have HB := Aside0.mk (show Below w.heap.size w w1 from below_step (by repeat (first | exact Below.refl _ _ | apply below_alloc | apply below_drew1)) b1)
      have HSZ := Aside0.mk (show w.heap.size + 5 ≤ w1.heap.size from by have := b1.size; simp at this; omega)
      have c0' : w1.cell? ⟨w.heap.size, 0, none⟩ = some (.slice A0 l0.length c0) := (blk_cell f0 0).trans rfl
      have c1' : w1.cell? ⟨w.heap.size + 1, 0, none⟩ = some (.slice A1 l1.length c1) := (blk_cell f1 0).trans rfl
      have F0 := Aside0.mk f0
      have F1 := Aside0.mk f1
      have FN := Aside0.mk (show w1.heap[w.heap.size + 1 + 1 + 1]? = some (.cells #[.int .u8 n] 5 (0, 0)) from blk_below (by repeat (first | exact new_at (by simp) | refine blk_drew ?_ | refine blk_alloc ?_ _)) b1)
      have FE := Aside0.mk (show w1.heap[w.heap.size + 1 + 1 + 1 + 1]? = some (.cells #[.int .u8 e] 5 (0, 0)) from blk_below (by repeat (first | exact new_at (by simp) | refine blk_drew ?_ | refine blk_alloc ?_ _)) b1)
      clear f0 f1 b1
      have q0 : ∀ o1 o2 o3, (((w1.alloc o1).alloc o2).alloc o3).cell? ⟨w.heap.size, 0, none⟩ = some (.slice A0 l0.length c0) := fun o1 o2 o3 => (blk_cell (blk_alloc (blk_alloc (blk_alloc F0.out o1) o2) o3) 0).trans rfl
      go_wp2_with fail
      refine (inside_run (bn := w.heap.size + 1 + 1 + 1) (be := w.heap.size + 1 + 1 + 1 + 1) HR0.out hc0 HB0.out HL0.out HR1.out hc1 HB1.out HL1.out hn0 hn1 he0 he1 HB.out HSZ.out F0.out F1.out FN.out FE.out).mono ?_
      rintro e' w2 ⟨rfl, hb2, hv2⟩
      have HB2 := Aside0.mk hb2
      have cw := (blk_cell hv2.w 0).trans rfl
      have ci := (blk_cell hv2.i 0).trans rfl
      have cs := (blk_cell hv2.s 0).trans rfl
      have cb := (blk_cell hv2.b 0).trans rfl
      have ca := (blk_cell hv2.a 0).trans rfl
      have cn := (blk_cell hv2.n 0).trans rfl
      have ce := (blk_cell hv2.e 0).trans rfl
      simp only [List.getElem?_toArray, List.getElem?_cons_zero] at cw ci cs cb ca cn ce
      clear hv2 hb2 HB F0 F1 FN FE c0' c1'
      by_cases hin : n.toNat % 10 ≤ l1.length
      · have e1 : inAt n e l1.length = (n.toNat % 10, 1 + e % 17) := if_pos hin
        rw [e1] at ci cs
        dsimp only at ci cs
        obtain ⟨m, rfl⟩ := Int.eq_ofNat_of_zero_le hn0
        have t5 : decide ((l1.length : Int) < ((m : Int) % 10)) = false := decide_eq_false (by simp at hin; omega)
        rw [show (((m : Int).toNat % 10 : Nat) : Int) = (m : Int) % 10 by simp] at ci
        clear e1 hin
        go_wp2
        go_ret
        exact ⟨by first | rfl | simp, HB2.out⟩
      · have e1 : inAt n e l1.length = (l1.length, 5) := if_neg hin
        rw [e1] at ci cs
        dsimp only at ci cs
        obtain ⟨m, rfl⟩ := Int.eq_ofNat_of_zero_le hn0
        have t5 : decide ((l1.length : Int) < ((m : Int) % 10)) = true := decide_eq_true (by simp at hin; omega)
        clear e1 hin
        go_wp2
        go_ret
        exact ⟨by first | rfl | simp, HB2.out⟩
    · go_wp2_with fail
      refine (alive_calls _).mono ?_
      rintro e' w1 ⟨rfl, b1⟩
      have f0 : w1.heap[w.heap.size]? = some (.cells #[.slice A0 l0.length c0] 22 (0, 0)) := blk_below (by repeat (first | exact new_at (by simp) | refine blk_drew ?_ | refine blk_alloc ?_ _)) b1
      have f1 : w1.heap[w.heap.size + 1]? = some (.cells #[.slice A1 l1.length c1] 22 (0, 0)) := blk_below (by repeat (first | exact new_at (by simp) | refine blk_drew ?_ | refine blk_alloc ?_ _)) b1
      have HB := Aside0.mk (show Below w.heap.size w w1 from below_step (by repeat (first | exact Below.refl _ _ | apply below_alloc | apply below_drew1)) b1)
      have HSZ := Aside0.mk (show w.heap.size + 5 ≤ w1.heap.size from by have := b1.size; simp at this; omega)
      have c0' : w1.cell? ⟨w.heap.size, 0, none⟩ = some (.slice A0 l0.length c0) := (blk_cell f0 0).trans rfl
      have c1' : w1.cell? ⟨w.heap.size + 1, 0, none⟩ = some (.slice A1 l1.length c1) := (blk_cell f1 0).trans rfl
      have F0 := Aside0.mk f0
      have F1 := Aside0.mk f1
      have FN := Aside0.mk (show w1.heap[w.heap.size + 1 + 1 + 1 + 1]? = some (.cells #[.int .u8 n] 5 (0, 0)) from blk_below (by repeat (first | exact new_at (by simp) | refine blk_drew ?_ | refine blk_alloc ?_ _)) b1)
      have FE := Aside0.mk (show w1.heap[w.heap.size + 1 + 1 + 1]? = some (.cells #[.int .u8 e] 5 (0, 0)) from blk_below (by repeat (first | exact new_at (by simp) | refine blk_drew ?_ | refine blk_alloc ?_ _)) b1)
      clear f0 f1 b1
      have q0 : ∀ o1 o2 o3, (((w1.alloc o1).alloc o2).alloc o3).cell? ⟨w.heap.size, 0, none⟩ = some (.slice A0 l0.length c0) := fun o1 o2 o3 => (blk_cell (blk_alloc (blk_alloc (blk_alloc F0.out o1) o2) o3) 0).trans rfl
      go_wp2_with fail
      refine (inside_run (bn := w.heap.size + 1 + 1 + 1 + 1) (be := w.heap.size + 1 + 1 + 1) HR0.out hc0 HB0.out HL0.out HR1.out hc1 HB1.out HL1.out hn0 hn1 he0 he1 HB.out HSZ.out F0.out F1.out FN.out FE.out).mono ?_
      rintro e' w2 ⟨rfl, hb2, hv2⟩
      have HB2 := Aside0.mk hb2
      have cw := (blk_cell hv2.w 0).trans rfl
      have ci := (blk_cell hv2.i 0).trans rfl
      have cs := (blk_cell hv2.s 0).trans rfl
      have cb := (blk_cell hv2.b 0).trans rfl
      have ca := (blk_cell hv2.a 0).trans rfl
      have cn := (blk_cell hv2.n 0).trans rfl
      have ce := (blk_cell hv2.e 0).trans rfl
      simp only [List.getElem?_toArray, List.getElem?_cons_zero] at cw ci cs cb ca cn ce
      clear hv2 hb2 HB F0 F1 FN FE c0' c1'
      by_cases hin : n.toNat % 10 ≤ l1.length
      · have e1 : inAt n e l1.length = (n.toNat % 10, 1 + e % 17) := if_pos hin
        rw [e1] at ci cs
        dsimp only at ci cs
        obtain ⟨m, rfl⟩ := Int.eq_ofNat_of_zero_le hn0
        have t5 : decide ((l1.length : Int) < ((m : Int) % 10)) = false := decide_eq_false (by simp at hin; omega)
        rw [show (((m : Int).toNat % 10 : Nat) : Int) = (m : Int) % 10 by simp] at ci
        clear e1 hin
        go_wp2
        go_ret
        exact ⟨by first | rfl | simp, HB2.out⟩
      · have e1 : inAt n e l1.length = (l1.length, 5) := if_neg hin
        rw [e1] at ci cs
        dsimp only at ci cs
        obtain ⟨m, rfl⟩ := Int.eq_ofNat_of_zero_le hn0
        have t5 : decide ((l1.length : Int) < ((m : Int) % 10)) = true := decide_eq_true (by simp at hin; omega)
        clear e1 hin
        go_wp2
        go_ret
        exact ⟨by first | rfl | simp, HB2.out⟩
end Go.Proofs.Ytamnnaadnjkdiaa.Rd
