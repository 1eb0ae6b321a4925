import Derived.Test.YtmoopdhnnpjcfaaDoorRtA
/-! Column: the document's Take. -/
namespace Go.Proofs.YtmoopdhnnpjcfaaDoor.Co
open Go.RowKit Go.Proofs.YtmoopdhnnpjcfaaDoorW.PrintWords Go.Proofs.YtmoopdhnnpjcfaaDoorW.PrintLast Go.Proofs.YtmoopdhnnpjcfaaDoorW.PrintMore Go.Proofs.YtmoopdhnnpjcfaaDoor.Wire Go.Proofs.YtmoopdhnnpjcfaaDoor.PCo Go.Proofs.YtmoopdhnnpjcfaaDoor.CoG Go.Proofs.YtmoopdhnnpjcfaaDoor.CoM Go.Proofs.YtmoopdhnnpjcfaaDoor.Rd
set_option linter.unusedVariables false
set_option linter.unusedSimpArgs false
set_option maxRecDepth 100000
/-- How the document's Take ends: the place, the error, and where there is none the cells. -/
def RtFin (w0 : World) (g : Nat) (L : List Int) (r : Res) (e : Ending) (w' : World) : Prop :=
  ∃ v, e = .returned v ∧ IsS115 w0 w' g L (r.2.1 : Int) r.2.2 ∧ Below w0.heap.size w0 w' ∧ (∃ B m d, v = .slice B m d) ∧ (r.2.2 = 0 → Kd.R k47 47 w' w0.heap.size (fun _ => True) v r.1)
theorem keeps {W W' : World} {g : Nat} (h : KeepBut W W' g none) : Kept W W' (fun k => k = g) := ⟨h.1, fun k hk hn => h.2 k hk hn (by simp)⟩
theorem keeps_blk {W W' : World} {g b : Nat} {o : Obj} (h : KeepBut W W' g none) (hb : W.heap[b]? = some o) (hn : b ≠ g) : W'.heap[b]? = some o := (h.2 b (blk_lt hb) hn (by simp)).trans hb
set_option maxHeartbeats 16000000 in
theorem rt_step {w0 w : World} {g : Nat} {L : List Int} (hb : Bytes L) (hl : L.length ≤ 140737488351232) (hI : IsS115 w0 w g L 0 0) (hB : Below w0.heap.size w0 w) (k : Int) (n : Nat) (hk0 : 0 ≤ k) (hk5 : k ≤ 5) (hk2 : k ≠ 2) (hn : n ≤ 1024) :
    Calls Tryd.prog 71 #[.pointer (some ⟨g, 0, none⟩), .int .i64 k, .int .i64 (n : Int)] w (RtFin w0 g L (tk L k (n : Int) 0)) := by
  obtain ⟨r, hr⟩ : ∃ r, tk L k (n : Int) 0 = r := ⟨_, rfl⟩
  have HR := Aside0.mk (show rl L k n ⟨0, e0⟩ 0 [] = r from (rl_tk hk0 hk5 hk2 hn).trans hr)
  have HO := Aside0.mk (fun (i : Nat) (last : C1) (hs : last.f1.size ≤ 256) (a : Nat) (ha : a ≤ L.length) => one_is 2600 (by decide) hb hl k i last hs ha)
  have HN := Aside0.mk hn
  have t1 : decide (k ≥ 0) = true := decide_eq_true hk0
  have t2 : decide ((0 : Int) ≤ k) = true := decide_eq_true hk0
  have t3 : decide (k ≤ 5) = true := decide_eq_true hk5
  have t4 : decide ((n : Int) ≥ 0) = true := decide_eq_true (by omega)
  have t5 : decide ((0 : Int) ≤ (n : Int)) = true := decide_eq_true (by omega)
  have t6 : decide ((n : Int) ≤ 1024) = true := decide_eq_true (by omega)
  have t7 : decide (n ≤ 1024) = true := decide_eq_true hn
  have t8 : (k == 2) = false := beq_eq_false_iff_ne.mpr hk2
  rw [hr]
  clear hr hb hl hk0 hk5 hn hk2
  have HM1 := Aside0.mk (deckleref03_Reader_Must.calls g L 0 0 true 10 0 0 w0 w hI hB rfl)
  have HGL := Aside0.mk (blk_lt hI.choose_spec.choose_spec.1)
  clear hI hB
  go_enter Tryd.func71, Tryd.ntmps71
  go_wp2_with fail
  refine HM1.out.mono ?_
  rintro e w1 ⟨rfl, hi1, hb1, hk1⟩
  have HM2 := Aside0.mk (deckleref03_Reader_Must.calls g L 0 0 true 3 0 0 w0 w1 hi1 hb1 rfl)
  have HK1 := Aside0.mk hk1.1
  clear hi1 hb1 hk1 HM1
  go_wp2_with fail
  refine HM2.out.mono ?_
  rintro e w2 ⟨rfl, hi2, hb2, hk2⟩
  have hg2 : g < w2.heap.size := by have := HGL.out; have := HK1.out; have := hk2.1; omega
  have hz := heap_alloc_new w2 (.cells #[.int .u64 0, .string ⟨#[]⟩] 47)
  have f0 := blk_frozen hz 0
  have f1 := blk_frozen hz 1
  have HI2 := Aside0.mk (hi2.alloc (.cells #[.int .u64 0, .string ⟨#[]⟩] 47))
  have HB2 := Aside0.mk (Below.trans hb2 ((below_alloc (Below.refl w2.heap.size w2) (.cells #[.int .u64 0, .string ⟨#[]⟩] 47)).mono hb2.size))
  have HG2 := Aside0.mk hg2
  have HW2 := Aside0.mk hb2.size
  have HZ := Aside0.mk hz
  have HLB := Aside0.mk (blk_lt hz)
  clear hi2 hb2 hk2 HM2 HK1 hg2 hz HGL
  go_wp2
  obtain ⟨lb, hlb⟩ : ∃ lb, w2.heap.size = lb := ⟨_, rfl⟩
  obtain ⟨W2, hW2⟩ : ∃ W2, w2.alloc (.cells #[.int .u64 0, .string ⟨#[]⟩] 47) = W2 := ⟨_, rfl⟩
  rw [hW2] at HI2 HB2 HZ HLB ⊢
  rw [hlb] at HG2 HW2 HZ HLB ⊢
  clear hW2 f0 f1 hlb
  go_loopw [7] (fun v wr => ∃ (m a : Nat) (er : Int) (last : C1) (xs : List C1), xs.length ≤ n ∧ a ≤ L.length ∧ Aside0 (last.f1.size ≤ 256) ∧ Aside0 ((er = 0 ∧ xs.length + m = n ∧ rl L k m last a xs = r) ∨ (er ≠ 0 ∧ r.2.1 = a ∧ r.2.2 = er)) ∧ Aside0 (IsS115 w0 wr g L (a : Int) er) ∧ Aside0 (Below w0.heap.size w0 wr) ∧ Aside0 (wr.heap[lb]? = some (.cells #[.int .u64 last.f0, .string last.f1] 47 (0, 0))) ∧ Aside0 (Kd.R k47 47 wr w0.heap.size (fun k => lb < k) v xs) ∧ ∃ B d, v = .slice B xs.length d) (fun v _ => match v with | .slice _ m _ => n - m | _ => 0)
  case atStart => exact ⟨n, 0, 0, ⟨0, e0⟩, [], Nat.zero_le _, Nat.zero_le _, ⟨by decide⟩, ⟨.inl ⟨rfl, by simp, HR.out⟩⟩, ⟨HI2.out⟩, ⟨HB2.out⟩, ⟨HZ.out⟩, ⟨Kd.R_nil _ _ _ _ _⟩, none, 0, rfl⟩
  case round =>
    clear HI2 HB2 HZ HR
    obtain ⟨m, a, er, last, xs, hx, ha, HS, HC, HI, HB, HL, HRW, B, d, rfl⟩ := hrel
    obtain ⟨j, hj⟩ : ∃ j, xs.length = j := ⟨_, rfl⟩
    have HJ := Aside0.mk hj
    rw [hj] at hx HC HRW ⊢
    clear hj
    obtain ⟨lf0, lf1⟩ := last
    dsimp only at HS HL
    have cg : wr.cell? ⟨g, 2, none⟩ = some (.int .i64 er) := by obtain ⟨A, c, hb, -⟩ := HI.out; exact (blk_cell hb 2).trans rfl
    by_cases her : er = 0
    case neg =>
      have HF := Aside0.mk (show RtFin w0 g L r (.returned (.slice B j d)) wr from by
        rcases HC.out with ⟨h, -⟩ | ⟨-, h1, h2⟩
        · exact absurd h her
        · exact ⟨_, rfl, by rw [h1, h2]; exact HI.out, HB.out, ⟨B, j, d, rfl⟩, fun h => absurd (h2.symm.trans h) her⟩)
      have e1 : (er == 0) = false := beq_eq_false_iff_ne.mpr her
      clear HC HI HL HRW her
      by_cases hlt : j < n
      · have u1 : decide ((j : Int) < (n : Int)) = true := decide_eq_true (by omega)
        have u2 : decide (j < n) = true := decide_eq_true hlt
        clear hlt hx
        go_wp2
        go_ret
        exact HF.out
      · have u1 : decide ((j : Int) < (n : Int)) = false := decide_eq_false (by omega)
        have u2 : decide (j < n) = false := decide_eq_false hlt
        clear hlt hx
        go_wp2
        go_ret
        exact HF.out
    subst her
    have hc := HC.out
    rcases hc with ⟨-, hjm, hrl⟩ | ⟨h, -⟩
    case inr => exact absurd rfl h
    by_cases hlt : j < n
    case neg =>
      have HF := Aside0.mk (show RtFin w0 g L r (.returned (.slice B j d)) wr from by
        obtain rfl : m = 0 := by omega
        rw [rl] at hrl
        rw [← hrl]
        exact ⟨_, rfl, HI.out, HB.out, ⟨B, j, d, rfl⟩, fun _ => Kd.R_mono HRW.out (fun _ _ => trivial)⟩)
      have u1 : decide ((j : Int) < (n : Int)) = false := decide_eq_false (by omega)
      have u2 : decide (j < n) = false := decide_eq_false hlt
      clear hlt hx HC HI HL HRW hjm hrl
      go_wp2
      go_ret
      exact HF.out
    have u1 : decide ((j : Int) < (n : Int)) = true := decide_eq_true (by omega)
    have u2 : decide (j < n) = true := decide_eq_true hlt
    obtain ⟨q, rfl⟩ : ∃ q, m = q + 1 := ⟨m - 1, by omega⟩
    obtain ⟨x, t, ho, hsp, hts, hpl⟩ := HO.out j ⟨lf0, lf1⟩ HS.out a ha
    rw [rl, HJ.out] at hrl
    obtain ⟨a2, ha2⟩ : ∃ a2, (sp L k j ⟨lf0, lf1⟩ a).2.1 = a2 := ⟨_, rfl⟩
    obtain ⟨er, her⟩ : ∃ er, (sp L k j ⟨lf0, lf1⟩ a).2.2 = er := ⟨_, rfl⟩
    rw [ha2, her] at ho hrl
    rw [ha2] at hpl
    rw [her] at hsp
    have HNX := Aside0.mk (show (er = 0 ∧ (j + 1) + q = n ∧ rl L k q ⟨x, t⟩ a2 (xs ++ [⟨x, t⟩]) = r) ∨ (er ≠ 0 ∧ r.2.1 = a2 ∧ r.2.2 = er) from by
      by_cases h0 : er = 0
      · rw [if_pos h0, hsp h0] at hrl
        exact .inl ⟨h0, by omega, hrl⟩
      · rw [if_neg h0] at hrl
        rw [← hrl]
        exact .inr ⟨h0, rfl, rfl⟩)
    have HCL := Aside0.mk (deckleref09_one.calls 2602 g L (a : Int) 0 k (j : Int) lf0 lf1 x t (a2 : Int) er w0 wr HI.out HB.out ho)
    have HLT := Aside0.mk hlt
    have HTS := Aside0.mk hts
    have HPL := Aside0.mk hpl
    have c1 : wr.cell? ⟨lb, 0, none⟩ = some (.int .u64 lf0) := (blk_cell HL.out 0).trans rfl
    have c2 : wr.cell? ⟨lb, 1, none⟩ = some (.string lf1) := (blk_cell HL.out 1).trans rfl
    clear hlt hts hpl ho hsp hrl hjm HC hx ha ha2 her HI HB
    go_wp2_with fail
    refine HCL.out.mono ?_
    rintro e w3 ⟨rfl, hi3, hb3, hk3⟩
    have hgl := HG2.out
    have hl3 := keeps_blk hk3 HL.out (show lb ≠ g by omega)
    have hr3 := Kd.R_kept HRW.out (keeps hk3) (fun k hk z => by omega)
    have f0 := blk_frozen hl3 0
    have f1 := blk_frozen hl3 1
    have hl4 := blk_put (blk_put hl3 0 (.int .u64 x) rfl) 1 (.string t) rfl
    have f2 := blk_frozen (blk_put hl3 0 (.int .u64 x) rfl) 1
    have c4 : w3.cell? ⟨lb, 0, none⟩ = some (.int .u64 lf0) := (blk_cell hl3 0).trans rfl
    have c5 : (w3.setCell ⟨lb, 0, none⟩ (.int .u64 x)).cell? ⟨lb, 1, none⟩ = some (.string lf1) := (blk_cell (blk_put hl3 0 (.int .u64 x) rfl) 1).trans rfl
    have hk4 : Kp (fun j => j = lb) w3 ((w3.setCell ⟨lb, 0, none⟩ (.int .u64 x)).setCell ⟨lb, 1, none⟩ (.string t)) := Kp.setCell (Kp.setCell (S := fun j => j = lb) (Kp.refl _ w3) (p := ⟨lb, 0, none⟩) (.inl rfl) _) (p := ⟨lb, 1, none⟩) (.inl rfl) _
    have hr4 := Kd.R_kept hr3 hk4.kept (fun k hk z => by omega)
    have hi4 := (hi3.far (p := ⟨lb, 0, none⟩) (show g ≠ lb by omega) (.int .u64 x)).far (p := ⟨lb, 1, none⟩) (show g ≠ lb by omega) (.string t)
    have hb4 := below_set (j := 1) (v := .string t) (below_set (j := 0) (v := .int .u64 x) hb3 HW2.out) HW2.out
    obtain ⟨w4, hw4⟩ : ∃ w4, (w3.setCell ⟨lb, 0, none⟩ (.int .u64 x)).setCell ⟨lb, 1, none⟩ (.string t) = w4 := ⟨_, rfl⟩
    rw [hw4] at hl4 hr4 hi4 hb4 hk4
    have d1 : w4.cell? ⟨lb, 0, none⟩ = some (.int .u64 x) := (blk_cell hl4 0).trans rfl
    have d2 : w4.cell? ⟨lb, 1, none⟩ = some (.string t) := (blk_cell hl4 1).trans rfl
    have HHG := Aside0.mk (show ∀ k, w4.heap.size ≤ k → lb < k from fun k hk => by have := blk_lt hl4; omega)
    have HOB := Aside0.mk hb4.size
    have HL4 := Aside0.mk hl4
    have HR4 := Aside0.mk hr4
    have HI4 := Aside0.mk hi4
    have HB4 := Aside0.mk hb4
    clear hi3 hb3 hk3 hl3 hr3 hl4 hr4 hi4 hb4 hk4 HCL HL HRW c1 c2 cg hgl
    go_wp2_with (at_builtin; refine Kd.R_append k47 (w0 := w0) w0.heap.size rfl (.tmp 71) (.tmp 73) 22 47 (.agg #[.int .u64 0, .string ⟨#[]⟩]) 24 rfl Tryd.underlying22 infoC rfl (by decide) (by decide) _ xs ⟨x, t⟩ [.int .u64 x, .string t] (fun k => lb < k) (fun _ => False) rfl rfl (k47_mkM _ _ _ _) (fun _ h => h.elim) HHG.out HR4.out HB4.out HOB.out ?aL ?_; (case aL => rw [HJ.out]; have := HLT.out; have := HN.out; omega); intro v1 w5 hr1 hb1 hg1 hat1; have HR5 := Aside0.mk hr1; have HB5 := Aside0.mk hb1; have HI5 := Aside0.mk (HI4.out.grown hg1 (fun e => absurd (HR4.out.1 g e.symm) (by have := HG2.out; omega))); have HL5 := Aside0.mk (blk_grown HL4.out hg1 (fun e => absurd (HR4.out.1 lb e.symm) (by omega))); obtain ⟨B3, d3, hv1⟩ := Kd.R_slice hr1; rw [List.length_append, HJ.out, show j + [(⟨x, t⟩ : C1)].length = j + 1 from by simp] at hv1; subst hv1; clear hr1 hb1 hg1 hat1)
    go_roundw
    case rel => exact ⟨q, a2, er, ⟨x, t⟩, xs ++ [⟨x, t⟩], by rw [List.length_append, HJ.out]; exact HLT.out, HPL.out, ⟨HTS.out⟩, ⟨by rw [List.length_append, HJ.out]; exact HNX.out⟩, ⟨HI5.out⟩, ⟨HB5.out⟩, ⟨HL5.out⟩, ⟨HR5.out⟩, B3, d3, by rw [List.length_append, HJ.out]; rfl⟩
    case measure => have := HLT.out; simp; omega
theorem mod_step : ∀ x : Fin 256, ∀ d : Fin 9, (x.val % 2 ^ (d.val + 1) = 0) = (x.val % 2 ^ d.val = 0 ∧ x.val / 2 ^ d.val % 2 = 0) := by decide +kernel
theorem bit_end {b : Nat} (hb : b < 256) {q : Nat} (hq : q ≤ 8) : b / 2 ^ q % 2 ^ (8 - q) = b / 2 ^ q := by
  refine Nat.mod_eq_of_lt ?_
  rw [Nat.div_lt_iff_lt_mul (Nat.two_pow_pos q), ← Nat.pow_add, show 8 - q + q = 8 by omega]
  exact hb
/-- The error behind t bits of a byte, of which q are cells. -/
def erb (b q : Nat) (e1 : Int) (t : Nat) : Int := if e1 ≠ 0 then e1 else if b / 2 ^ q % 2 ^ (t - q) = 0 then 0 else 6
theorem erb_in (b q : Nat) (e1 : Int) {t : Nat} (h : t ≤ q) : erb b q e1 t = e1 := by
  unfold erb
  rw [show t - q = 0 by omega, Nat.pow_zero, Nat.mod_one, if_pos rfl]
  by_cases h1 : e1 = 0
  · rw [if_neg (by rw [h1]; simp), h1]
  · rw [if_pos h1]
theorem erb_step {b q : Nat} (hb : b < 256) (e1 : Int) {t : Nat} (h : q ≤ t) (h8 : t < 8) : erb b q e1 (t + 1) = if erb b q e1 t = 0 then (if (b / 2 ^ t) % 2 = 0 then 0 else 6) else erb b q e1 t := by
  unfold erb
  by_cases h1 : e1 = 0
  case neg => rw [if_pos h1, if_pos h1, if_neg h1]
  have hn : ¬ e1 ≠ 0 := fun z => z h1
  rw [if_neg hn, if_neg hn]
  have hx : b / 2 ^ q < 256 := Nat.lt_of_le_of_lt (Nat.div_le_self _ _) hb
  have hs := mod_step ⟨b / 2 ^ q, hx⟩ ⟨t - q, by omega⟩
  dsimp only at hs
  rw [show t + 1 - q = t - q + 1 by omega]
  have hd : b / 2 ^ q / 2 ^ (t - q) = b / 2 ^ t := by rw [Nat.div_div_eq_div_mul, ← Nat.pow_add, show q + (t - q) = t by omega]
  rw [hd] at hs
  by_cases h2 : b / 2 ^ q % 2 ^ (t - q) = 0
  · rw [if_pos h2, if_pos rfl]
    by_cases h3 : b / 2 ^ t % 2 = 0
    · rw [if_pos h3, if_pos (hs.mpr ⟨h2, h3⟩)]
    · rw [if_neg h3, if_neg (fun z => h3 (hs.mp z).2)]
  · rw [if_neg (fun z => h2 (hs.mp z).1), if_neg h2, if_neg (show ¬ ((6 : Int) = 0) by decide)]
set_option maxHeartbeats 16000000 in
theorem rt_bits {w0 w : World} {g : Nat} {L : List Int} (hb : Bytes L) (hl : L.length ≤ 140737488351232) (hI : IsS115 w0 w g L 0 0) (hB : Below w0.heap.size w0 w) (n : Nat) (hn : n ≤ 1024) :
    Calls Tryd.prog 71 #[.pointer (some ⟨g, 0, none⟩), .int .i64 2, .int .i64 (n : Int)] w (RtFin w0 g L (tk L 2 (n : Int) 0)) := by
  obtain ⟨r, hr⟩ : ∃ r, tk L 2 (n : Int) 0 = r := ⟨_, rfl⟩
  have HR := Aside0.mk (show tb L n (n + 1) 0 [] = r from by
    unfold tk at hr
    rw [if_neg (by omega), if_neg (by omega), if_neg (by omega), if_pos rfl, Int.toNat_natCast] at hr
    exact hr)
  have HBY := Aside0.mk hb
  have HLM := Aside0.mk hl
  have HN := Aside0.mk hn
  have t4 : decide ((n : Int) ≥ 0) = true := decide_eq_true (by omega)
  have t5 : decide ((0 : Int) ≤ (n : Int)) = true := decide_eq_true (by omega)
  have t6 : decide ((n : Int) ≤ 1024) = true := decide_eq_true (by omega)
  have t7 : decide (n ≤ 1024) = true := decide_eq_true hn
  rw [hr]
  clear hr hb hl hn
  have HM1 := Aside0.mk (deckleref03_Reader_Must.calls g L 0 0 true 10 0 0 w0 w hI hB rfl)
  have HGL := Aside0.mk (blk_lt hI.choose_spec.choose_spec.1)
  clear hI hB
  go_enter Tryd.func71, Tryd.ntmps71
  go_wp2_with fail
  refine HM1.out.mono ?_
  rintro e w1 ⟨rfl, hi1, hb1, hk1⟩
  have HM2 := Aside0.mk (deckleref03_Reader_Must.calls g L 0 0 true 3 0 0 w0 w1 hi1 hb1 rfl)
  have HK1 := Aside0.mk hk1.1
  clear hi1 hb1 hk1 HM1
  go_wp2_with fail
  refine HM2.out.mono ?_
  rintro e w2 ⟨rfl, hi2, hb2, hk2⟩
  have hg2 : g < w2.heap.size := by have := HGL.out; have := HK1.out; have := hk2.1; omega
  have hz := heap_alloc_new w2 (.cells #[.int .u64 0, .string ⟨#[]⟩] 47)
  have f0 := blk_frozen hz 0
  have f1 := blk_frozen hz 1
  have HI2 := Aside0.mk (hi2.alloc (.cells #[.int .u64 0, .string ⟨#[]⟩] 47))
  have HB2 := Aside0.mk (Below.trans hb2 ((below_alloc (Below.refl w2.heap.size w2) (.cells #[.int .u64 0, .string ⟨#[]⟩] 47)).mono hb2.size))
  have HG2 := Aside0.mk hg2
  have HW2 := Aside0.mk hb2.size
  have HZ := Aside0.mk hz
  have HLB := Aside0.mk (blk_lt hz)
  clear hi2 hb2 hk2 HM2 HK1 hg2 hz HGL
  go_wp2
  obtain ⟨lb, hlb⟩ : ∃ lb, w2.heap.size = lb := ⟨_, rfl⟩
  obtain ⟨W2, hW2⟩ : ∃ W2, w2.alloc (.cells #[.int .u64 0, .string ⟨#[]⟩] 47) = W2 := ⟨_, rfl⟩
  rw [hW2] at HI2 HB2 HZ HLB ⊢
  rw [hlb] at HG2 HW2 HZ HLB ⊢
  clear hW2 f0 f1 hlb
  clear HZ
  go_loopw [7] (fun v wr => ∃ (f a : Nat) (er : Int) (xs : List C1), xs.length ≤ n ∧ a ≤ L.length ∧ Aside0 ((er = 0 ∧ n < xs.length + f ∧ tb L n f a xs = r) ∨ (er ≠ 0 ∧ r.2.1 = a ∧ r.2.2 = er)) ∧ Aside0 (IsS115 w0 wr g L (a : Int) er) ∧ Aside0 (Below w0.heap.size w0 wr) ∧ Aside0 (lb < wr.heap.size) ∧ Aside0 (Kd.R k47 47 wr w0.heap.size (fun k => lb < k) v xs) ∧ ∃ B d, v = .slice B xs.length d) (fun v _ => match v with | .slice _ m _ => n - m | _ => 0)
  case atStart => exact ⟨n + 1, 0, 0, [], Nat.zero_le _, Nat.zero_le _, ⟨.inl ⟨rfl, by simp, HR.out⟩⟩, ⟨HI2.out⟩, ⟨HB2.out⟩, ⟨HLB.out⟩, ⟨Kd.R_nil _ _ _ _ _⟩, none, 0, rfl⟩
  case round =>
    clear HI2 HB2 HR HLB
    obtain ⟨f, a, er, xs, hx, ha, HC, HI, HB, HLB, HRW, B, d, rfl⟩ := hrel
    obtain ⟨j, hj⟩ : ∃ j, xs.length = j := ⟨_, rfl⟩
    have HJ := Aside0.mk hj
    rw [hj] at hx HC HRW ⊢
    clear hj
    have cg : wr.cell? ⟨g, 2, none⟩ = some (.int .i64 er) := by obtain ⟨A, c, hb, -⟩ := HI.out; exact (blk_cell hb 2).trans rfl
    by_cases her : er = 0
    case neg =>
      have HF := Aside0.mk (show RtFin w0 g L r (.returned (.slice B j d)) wr from by
        rcases HC.out with ⟨h, -⟩ | ⟨-, h1, h2⟩
        · exact absurd h her
        · exact ⟨_, rfl, by rw [h1, h2]; exact HI.out, HB.out, ⟨B, j, d, rfl⟩, fun h => absurd (h2.symm.trans h) her⟩)
      have e1 : (er == 0) = false := beq_eq_false_iff_ne.mpr her
      clear HC HI HRW her
      by_cases hlt : j < n
      · have u1 : decide ((j : Int) < (n : Int)) = true := decide_eq_true (by omega)
        have u2 : decide (j < n) = true := decide_eq_true hlt
        clear hlt hx
        go_wp2
        go_ret
        exact HF.out
      · have u1 : decide ((j : Int) < (n : Int)) = false := decide_eq_false (by omega)
        have u2 : decide (j < n) = false := decide_eq_false hlt
        clear hlt hx
        go_wp2
        go_ret
        exact HF.out
    subst her
    have hc := HC.out
    rcases hc with ⟨-, hjf, hrl⟩ | ⟨h, -⟩
    case inr => exact absurd rfl h
    obtain ⟨f, rfl⟩ : ∃ q, f = q + 1 := ⟨f - 1, by omega⟩
    by_cases hlt : j < n
    case neg =>
      have HF := Aside0.mk (show RtFin w0 g L r (.returned (.slice B j d)) wr from by
        rw [tb, if_neg (by rw [HJ.out]; exact hlt)] at hrl
        rw [← hrl]
        exact ⟨_, rfl, HI.out, HB.out, ⟨B, j, d, rfl⟩, fun _ => Kd.R_mono HRW.out (fun _ _ => trivial)⟩)
      have u1 : decide ((j : Int) < (n : Int)) = false := decide_eq_false (by omega)
      have u2 : decide (j < n) = false := decide_eq_false hlt
      clear hlt hx HC HI HRW hjf hrl
      go_wp2
      go_ret
      exact HF.out
    have u1 : decide ((j : Int) < (n : Int)) = true := decide_eq_true (by omega)
    have u2 : decide (j < n) = true := decide_eq_true hlt
    obtain ⟨q, hq⟩ : ∃ q, min 8 (n - j) = q := ⟨_, rfl⟩
    obtain ⟨b, a1, e1, hby, hb8, ha1, hnx⟩ : ∃ (b a1 : Nat) (e1 : Int), deckleref03_Reader_Byte.f L (a : Int) 0 = some ((b : Int), (a1 : Int), e1) ∧ b < 256 ∧ a1 ≤ L.length ∧
        ((erb b q e1 8 = 0 ∧ tb L n f a1 (xs ++ row8 (b : Int) q) = r) ∨ (erb b q e1 8 ≠ 0 ∧ r.2.1 = a1 ∧ r.2.2 = erb b q e1 8)) := by
      rw [tb, HJ.out, if_pos hlt, hq] at hrl
      by_cases hal : a < L.length
      · rw [if_pos hal] at hrl
        have hr8 := HBY.out.rd_ a
        obtain ⟨b, hb⟩ := Int.eq_ofNat_of_zero_le hr8.1
        have hb8 : b < 256 := by omega
        have hp : (rd L (a : Int)) / 2 ^ q = ((b / 2 ^ q : Nat) : Int) := by rw [hb]; norm_cast
        rw [hp, hb] at hrl
        have he8 : erb b q 0 8 = if b / 2 ^ q = 0 then 0 else 6 := by unfold erb; rw [if_neg (by simp), bit_end hb8 (by omega)]
        refine ⟨b, a + 1, 0, by rw [rByte_ok hal, hb], hb8, hal, ?_⟩
        rw [he8]
        by_cases hz : b / 2 ^ q = 0
        · rw [if_pos hz]
          rw [if_pos (by omega)] at hrl
          exact .inl ⟨rfl, hrl⟩
        · rw [if_neg hz]
          rw [if_neg (by omega)] at hrl
          rw [← hrl]
          exact .inr ⟨by decide, rfl, rfl⟩
      · rw [if_neg hal] at hrl
        obtain rfl : a = L.length := by omega
        refine ⟨0, L.length, 5, rByte_end L, by decide, Nat.le_refl _, .inr ?_⟩
        rw [← hrl, show erb 0 q 5 8 = 5 from by unfold erb; rw [if_pos (by decide)]]
        exact ⟨by decide, rfl, rfl⟩
    have HCL := Aside0.mk (deckleref03_Reader_Byte.calls g L (a : Int) 0 (b : Int) (a1 : Int) e1 w0 wr HI.out HB.out hby)
    have HNX := Aside0.mk hnx
    have HJF := Aside0.mk hjf
    have HA1 := Aside0.mk ha1
    have HLT := Aside0.mk hlt
    have HQ := Aside0.mk hq
    have HB8 := Aside0.mk hb8
    clear hby hnx hjf ha1 hlt hq hb8 hrl HC hx ha HI HB
    go_wp2_with fail
    refine HCL.out.mono ?_
    rintro e w3 ⟨rfl, hi3, hb3, hk3⟩
    have HI3 := Aside0.mk hi3
    have HB3 := Aside0.mk hb3
    have HR3 := Aside0.mk (Kd.R_kept HRW.out (keeps hk3) (fun k hk z => by have := HG2.out; omega))
    have HL3 := Aside0.mk (Nat.lt_of_lt_of_le HLB.out hk3.1)
    clear hi3 hb3 hk3 HCL HRW HLB cg u1 u2
    go_wp2_with fail
    go_loopw [7, 9, 10] (fun v c i wr => ∃ (t : Nat) (er : Int) (ys : List C1), t ≤ 8 ∧ i = .int .i64 (t : Int) ∧ c = .int .u8 ((b / 2 ^ t : Nat) : Int) ∧ Aside0 (ys = xs ++ row8 (b : Int) (min t q)) ∧ Aside0 (er = erb b q e1 t) ∧ Aside0 (IsS115 w0 wr g L (a1 : Int) er) ∧ Aside0 (Below w0.heap.size w0 wr) ∧ Aside0 (lb < wr.heap.size) ∧ Aside0 (Kd.R k47 47 wr w0.heap.size (fun k => lb < k) v ys) ∧ ∃ B d, v = .slice B ys.length d) (fun _ _ i _ => 8 - (intOf i).toNat)
    case atStart => exact ⟨0, e1, xs, by omega, rfl, by simp, ⟨by rw [Nat.zero_min]; simp [row8]⟩, ⟨(erb_in b q e1 (Nat.zero_le _)).symm⟩, ⟨HI3.out⟩, ⟨HB3.out⟩, ⟨HL3.out⟩, ⟨HR3.out⟩, B, d, by rw [HJ.out]⟩
    case round =>
      clear HI3 HB3 HR3 HL3
      obtain ⟨t, er, ys, ht, rfl, rfl, HY, HE, HI, HB, HLB, HRW, B2, d2, rfl⟩ := hrel
      obtain ⟨M, hM⟩ : ∃ M, ys.length = M := ⟨_, rfl⟩
      have HM := Aside0.mk hM
      have hMv : M = j + min t q := by rw [← hM, HY.out, List.length_append, row8_len, HJ.out]
      have HMV := Aside0.mk hMv
      rw [hM] at HRW ⊢
      have HTT := Aside0.mk ht
      clear hM hMv ht
      obtain ⟨C, hC⟩ : ∃ C, b / 2 ^ t = C := ⟨_, rfl⟩
      have HCE := Aside0.mk hC
      have hC8 : C < 256 := by rw [← hC]; exact Nat.lt_of_le_of_lt (Nat.div_le_self _ _) HB8.out
      have HC2 := Aside0.mk (show b / 2 ^ (t + 1) = C / 2 from by rw [← hC, Nat.div_div_eq_div_mul, ← Nat.pow_succ])
      rw [hC]
      clear hC
      by_cases ht8 : t < 8
      · have v1 : decide ((t : Int) < 8) = true := decide_eq_true (by omega)
        have v2 : decide (t < 8) = true := decide_eq_true ht8
        have HT8 := Aside0.mk ht8
        have hmax : (t : Int) + 1 ≤ 9223372036854775807 := by omega
        by_cases htq : t < q
        · have hMn : M < n := by have := HQ.out; have := HMV.out; have := HLT.out; omega
          have q1 : decide ((M : Int) < (n : Int)) = true := decide_eq_true (by omega)
          have q2 : decide (M < n) = true := decide_eq_true hMn
          have HTQ := Aside0.mk htq
          have HMN := Aside0.mk hMn
          clear htq hMn ht8
          have HRX := Aside0.mk (show ys ++ [(⟨(C : Int) % 2, e0⟩ : C1)] = xs ++ row8 (b : Int) (min (t + 1) q) from by
            rw [HY.out, show min t q = t by have := HTQ.out; omega, show min (t + 1) q = t + 1 by have := HTQ.out; omega, row8, List.append_assoc, show bitc (b : Int) t = (⟨(C : Int) % 2, e0⟩ : C1) from by
              unfold bitc
              rw [← HCE.out]
              congr 1])
          have HEX := Aside0.mk (show er = erb b q e1 (t + 1) from by rw [HE.out, erb_in _ _ _ (Nat.le_of_lt HTQ.out), erb_in _ _ _ HTQ.out])
          have HHG := Aside0.mk (show ∀ k, wr.heap.size ≤ k → lb < k from fun k hk => by have := HLB.out; omega)
          have HOB := Aside0.mk HB.out.size
          iterate 50 go_step
          obtain ⟨y, hy⟩ : ∃ y, (C : Int) % 2 = y := ⟨_, rfl⟩
          rw [hy] at HRX ⊢
          clear hy
          go_wp2_with (at_builtin; refine Kd.R_append k47 (w0 := w0) w0.heap.size rfl (.tmp 51) (.tmp 56) 22 47 (.agg #[.int .u64 0, .string ⟨#[]⟩]) 24 rfl Tryd.underlying22 infoC rfl (by decide) (by decide) _ ys ⟨y, ⟨#[]⟩⟩ [.int .u64 y, .string ⟨#[]⟩] (fun k => lb < k) (fun _ => False) rfl rfl (k47_mkM _ _ _ _) (fun _ h => h.elim) HHG.out HRW.out HB.out HOB.out ?aL ?_; (case aL => rw [HM.out]; have := HMN.out; have := HN.out; omega); intro v1 w5 hr1 hb1 hg1 hat1; have HR5 := Aside0.mk hr1; have HB5 := Aside0.mk hb1; have HI5 := Aside0.mk (HI.out.grown hg1 (fun e => absurd (HRW.out.1 g e.symm) (by have := HG2.out; omega))); have HL5 := Aside0.mk (Nat.lt_of_lt_of_le HLB.out hg1.size); obtain ⟨B3, d3, hv1⟩ := Kd.R_slice hr1; rw [List.length_append, HM.out, show M + [(⟨y, ⟨#[]⟩⟩ : C1)].length = M + 1 from by simp] at hv1; subst hv1; clear hr1 hb1 hg1 hat1)
          go_roundw
          case rel => exact ⟨t + 1, er, ys ++ [⟨y, e0⟩], HT8.out, by go_num, by rw [HC2.out]; go_num, ⟨HRX.out⟩, ⟨HEX.out⟩, ⟨HI5.out⟩, ⟨HB5.out⟩, ⟨HL5.out⟩, ⟨HR5.out⟩, B3, d3, by rw [List.length_append, HM.out]; rfl⟩
          case measure => have := HT8.out; simp [intOf]; omega
        · have hMn : M = n := by have := HQ.out; have := HMV.out; have := HLT.out; omega
          subst hMn
          have q1 : decide ((M : Int) < (M : Int)) = false := decide_eq_false (by omega)
          have q2 : decide (M < M) = false := decide_eq_false (by omega)
          have HEX := Aside0.mk (show erb b q e1 (t + 1) = if er = 0 then (if C % 2 = 0 then 0 else 6) else er from by rw [erb_step HB8.out e1 (by omega) ht8, HCE.out, ← HE.out])
          have HYX := Aside0.mk (show ys = xs ++ row8 (b : Int) (min (t + 1) q) from by rw [HY.out, show min (t + 1) q = min t q by omega])
          by_cases hz : C % 2 = 0
          · have z1 : ((C : Int) % 2 == 0) = true := beq_iff_eq.mpr (by omega)
            have HMU := Aside0.mk (deckleref03_Reader_Must.calls g L (a1 : Int) er true 6 (a1 : Int) er w0 wr HI.out HB.out (by unfold deckleref03_Reader_Must.f; by_cases h : er = 0 <;> simp [h]))
            have HEY := Aside0.mk (show er = erb b q e1 (t + 1) from by rw [HEX.out, if_pos hz]; by_cases h : er = 0 <;> simp [h])
            clear hz htq ht8 HEX HE HI HB
            go_wp2_with fail
            refine HMU.out.mono ?_
            rintro e w5 ⟨rfl, hi5, hb5, hk5⟩
            have HI5 := Aside0.mk hi5
            have HB5 := Aside0.mk hb5
            have HL5 := Aside0.mk (Nat.lt_of_lt_of_le HLB.out hk5.1)
            have HR5 := Aside0.mk (Kd.R_kept HRW.out (keeps hk5) (fun k hk z => by have := HG2.out; omega))
            clear hi5 hb5 hk5 HMU HRW HLB
            go_wp2_with fail
            go_roundw
            case rel => exact ⟨t + 1, er, ys, HT8.out, by go_num, by rw [HC2.out]; go_num, ⟨HYX.out⟩, ⟨HEY.out⟩, ⟨HI5.out⟩, ⟨HB5.out⟩, ⟨HL5.out⟩, ⟨HR5.out⟩, B2, d2, by rw [HM.out]⟩
            case measure => have := HT8.out; simp [intOf]; omega
          · have z1 : ((C : Int) % 2 == 0) = false := beq_eq_false_iff_ne.mpr (by omega)
            obtain ⟨er2, her2⟩ : ∃ er2, erb b q e1 (t + 1) = er2 := ⟨_, rfl⟩
            have HMU := Aside0.mk (deckleref03_Reader_Must.calls g L (a1 : Int) er false 6 (a1 : Int) er2 w0 wr HI.out HB.out (by rw [← her2, HEX.out, if_neg hz]; unfold deckleref03_Reader_Must.f; by_cases h : er = 0 <;> simp [h]))
            have HEY := Aside0.mk her2.symm
            clear hz htq ht8 HEX HE HI HB her2
            go_wp2_with fail
            refine HMU.out.mono ?_
            rintro e w5 ⟨rfl, hi5, hb5, hk5⟩
            have HI5 := Aside0.mk hi5
            have HB5 := Aside0.mk hb5
            have HL5 := Aside0.mk (Nat.lt_of_lt_of_le HLB.out hk5.1)
            have HR5 := Aside0.mk (Kd.R_kept HRW.out (keeps hk5) (fun k hk z => by have := HG2.out; omega))
            clear hi5 hb5 hk5 HMU HRW HLB
            go_wp2_with fail
            go_roundw
            case rel => exact ⟨t + 1, er2, ys, HT8.out, by go_num, by rw [HC2.out]; go_num, ⟨HYX.out⟩, ⟨HEY.out⟩, ⟨HI5.out⟩, ⟨HB5.out⟩, ⟨HL5.out⟩, ⟨HR5.out⟩, B2, d2, by rw [HM.out]⟩
            case measure => have := HT8.out; simp [intOf]; omega
      · obtain rfl : t = 8 := by have := HTT.out; omega
        have v1 : decide ((8 : Int) < 8) = false := by decide
        have HYX := Aside0.mk (show ys = xs ++ row8 (b : Int) q from by rw [HY.out, show min 8 q = q by have := HQ.out; omega])
        have HMJ := Aside0.mk (show M ≤ n ∧ j < M from by have := HMV.out; have := HQ.out; have := HLT.out; omega)
        have HFX := Aside0.mk (show (er = 0 ∧ n < M + f ∧ tb L n f a1 ys = r) ∨ (er ≠ 0 ∧ r.2.1 = a1 ∧ r.2.2 = er) from by
          rw [HE.out, HYX.out]
          rcases HNX.out with ⟨h1, h2⟩ | h
          · exact .inl ⟨h1, by have := HJF.out; have := HMJ.out; omega, h2⟩
          · exact .inr h)
        clear ht8
        go_wp2_with fail
        go_roundw
        case rel => exact ⟨f, a1, er, ys, by rw [HM.out]; exact HMJ.out.1, HA1.out, ⟨by rw [HM.out]; exact HFX.out⟩, ⟨HI.out⟩, ⟨HB.out⟩, ⟨HLB.out⟩, ⟨HRW.out⟩, B2, d2, by rw [HM.out]⟩
        case measure => have := HMJ.out; simp; omega
set_option maxHeartbeats 16000000 in
theorem rt_neg_neg {w0 w : World} {g : Nat} {L : List Int} (hI : IsS115 w0 w g L 0 0) (hB : Below w0.heap.size w0 w) (k n : Int) (hk : k < 0) (hn : n < 0) :
    Calls Tryd.prog 71 #[.pointer (some ⟨g, 0, none⟩), .int .i64 k, .int .i64 n] w (RtFin w0 g L ([], 0, 10)) := by
  have t0 : decide (k ≥ 0) = false := decide_eq_false (by omega)
  have t1 : decide ((0 : Int) ≤ k) = false := decide_eq_false (by omega)
  have t2 : decide (n ≥ 0) = false := decide_eq_false (by omega)
  have t3 : decide ((0 : Int) ≤ n) = false := decide_eq_false (by omega)
  have t4 : decide ((0 : Int) < n) = false := decide_eq_false (by omega)
  clear hk hn
  have HM1 := Aside0.mk (deckleref03_Reader_Must.calls g L 0 0 false 10 0 10 w0 w hI hB rfl)
  have HGL := Aside0.mk (blk_lt hI.choose_spec.choose_spec.1)
  clear hI hB
  go_enter Tryd.func71, Tryd.ntmps71
  go_wp2_with fail
  refine HM1.out.mono ?_
  rintro e w1 ⟨rfl, hi1, hb1, hk1⟩
  have HM2 := Aside0.mk (deckleref03_Reader_Must.calls g L 0 10 false 3 0 10 w0 w1 hi1 hb1 rfl)
  have HK1 := Aside0.mk hk1.1
  clear hi1 hb1 hk1 HM1
  go_wp2_with fail
  refine HM2.out.mono ?_
  rintro e w2 ⟨rfl, hi2, hb2, hk2⟩
  have hg2 : g < w2.heap.size := by have := HGL.out; have := HK1.out; have := hk2.1; omega
  have hz := heap_alloc_new w2 (.cells #[.int .u64 0, .string ⟨#[]⟩] 47)
  have f0 := blk_frozen hz 0
  have f1 := blk_frozen hz 1
  have HI2 := Aside0.mk (hi2.alloc (.cells #[.int .u64 0, .string ⟨#[]⟩] 47))
  have HB2 := Aside0.mk (Below.trans hb2 ((below_alloc (Below.refl w2.heap.size w2) (.cells #[.int .u64 0, .string ⟨#[]⟩] 47)).mono hb2.size))
  have HG2 := Aside0.mk hg2
  have HW2 := Aside0.mk hb2.size
  have HZ := Aside0.mk hz
  have HLB := Aside0.mk (blk_lt hz)
  clear hi2 hb2 hk2 HM2 HK1 hg2 hz HGL
  go_wp2
  obtain ⟨lb, hlb⟩ : ∃ lb, w2.heap.size = lb := ⟨_, rfl⟩
  obtain ⟨W2, hW2⟩ : ∃ W2, w2.alloc (.cells #[.int .u64 0, .string ⟨#[]⟩] 47) = W2 := ⟨_, rfl⟩
  rw [hW2] at HI2 HB2 HZ HLB ⊢
  rw [hlb] at HG2 HW2 HZ HLB ⊢
  clear hW2 f0 f1 hlb
  go_loopw [7] (fun v wr => v = .slice none 0 0 ∧ Aside0 (IsS115 w0 wr g L 0 10) ∧ Aside0 (Below w0.heap.size w0 wr)) (fun _ _ => 0)
  case atStart => exact ⟨rfl, ⟨HI2.out⟩, ⟨HB2.out⟩⟩
  case round =>
    clear HI2 HB2 HZ
    obtain ⟨rfl, HI, HB⟩ := hrel
    have cg : wr.cell? ⟨g, 2, none⟩ = some (.int .i64 10) := by obtain ⟨A, c, hb, -⟩ := HI.out; exact (blk_cell hb 2).trans rfl
    go_wp2
    go_ret
    exact ⟨_, rfl, HI.out, HB.out, ⟨none, 0, 0, rfl⟩, fun h => absurd (show (10 : Int) = 0 from h) (by decide)⟩
set_option maxHeartbeats 16000000 in
theorem rt_neg_big {w0 w : World} {g : Nat} {L : List Int} (hI : IsS115 w0 w g L 0 0) (hB : Below w0.heap.size w0 w) (k n : Int) (hk : k < 0) (hn : 1024 < n) :
    Calls Tryd.prog 71 #[.pointer (some ⟨g, 0, none⟩), .int .i64 k, .int .i64 n] w (RtFin w0 g L ([], 0, 10)) := by
  have t0 : decide (k ≥ 0) = false := decide_eq_false (by omega)
  have t1 : decide ((0 : Int) ≤ k) = false := decide_eq_false (by omega)
  have t2 : decide (n ≥ 0) = true := decide_eq_true (by omega)
  have t3 : decide ((0 : Int) ≤ n) = true := decide_eq_true (by omega)
  have t4 : decide (n ≤ 1024) = false := decide_eq_false (by omega)
  have t5 : decide ((0 : Int) < n) = true := decide_eq_true (by omega)
  clear hk hn
  have HM1 := Aside0.mk (deckleref03_Reader_Must.calls g L 0 0 false 10 0 10 w0 w hI hB rfl)
  have HGL := Aside0.mk (blk_lt hI.choose_spec.choose_spec.1)
  clear hI hB
  go_enter Tryd.func71, Tryd.ntmps71
  go_wp2_with fail
  refine HM1.out.mono ?_
  rintro e w1 ⟨rfl, hi1, hb1, hk1⟩
  have HM2 := Aside0.mk (deckleref03_Reader_Must.calls g L 0 10 false 3 0 10 w0 w1 hi1 hb1 rfl)
  have HK1 := Aside0.mk hk1.1
  clear hi1 hb1 hk1 HM1
  go_wp2_with fail
  refine HM2.out.mono ?_
  rintro e w2 ⟨rfl, hi2, hb2, hk2⟩
  have hg2 : g < w2.heap.size := by have := HGL.out; have := HK1.out; have := hk2.1; omega
  have hz := heap_alloc_new w2 (.cells #[.int .u64 0, .string ⟨#[]⟩] 47)
  have f0 := blk_frozen hz 0
  have f1 := blk_frozen hz 1
  have HI2 := Aside0.mk (hi2.alloc (.cells #[.int .u64 0, .string ⟨#[]⟩] 47))
  have HB2 := Aside0.mk (Below.trans hb2 ((below_alloc (Below.refl w2.heap.size w2) (.cells #[.int .u64 0, .string ⟨#[]⟩] 47)).mono hb2.size))
  have HG2 := Aside0.mk hg2
  have HW2 := Aside0.mk hb2.size
  have HZ := Aside0.mk hz
  have HLB := Aside0.mk (blk_lt hz)
  clear hi2 hb2 hk2 HM2 HK1 hg2 hz HGL
  go_wp2
  obtain ⟨lb, hlb⟩ : ∃ lb, w2.heap.size = lb := ⟨_, rfl⟩
  obtain ⟨W2, hW2⟩ : ∃ W2, w2.alloc (.cells #[.int .u64 0, .string ⟨#[]⟩] 47) = W2 := ⟨_, rfl⟩
  rw [hW2] at HI2 HB2 HZ HLB ⊢
  rw [hlb] at HG2 HW2 HZ HLB ⊢
  clear hW2 f0 f1 hlb
  go_loopw [7] (fun v wr => v = .slice none 0 0 ∧ Aside0 (IsS115 w0 wr g L 0 10) ∧ Aside0 (Below w0.heap.size w0 wr)) (fun _ _ => 0)
  case atStart => exact ⟨rfl, ⟨HI2.out⟩, ⟨HB2.out⟩⟩
  case round =>
    clear HI2 HB2 HZ
    obtain ⟨rfl, HI, HB⟩ := hrel
    have cg : wr.cell? ⟨g, 2, none⟩ = some (.int .i64 10) := by obtain ⟨A, c, hb, -⟩ := HI.out; exact (blk_cell hb 2).trans rfl
    go_wp2
    go_ret
    exact ⟨_, rfl, HI.out, HB.out, ⟨none, 0, 0, rfl⟩, fun h => absurd (show (10 : Int) = 0 from h) (by decide)⟩
set_option maxHeartbeats 16000000 in
theorem rt_neg_ok0 {w0 w : World} {g : Nat} {L : List Int} (hI : IsS115 w0 w g L 0 0) (hB : Below w0.heap.size w0 w) (k n : Int) (hk : k < 0) (hn : n = 0) :
    Calls Tryd.prog 71 #[.pointer (some ⟨g, 0, none⟩), .int .i64 k, .int .i64 n] w (RtFin w0 g L ([], 0, 10)) := by
  have t0 : decide (k ≥ 0) = false := decide_eq_false (by omega)
  have t1 : decide ((0 : Int) ≤ k) = false := decide_eq_false (by omega)
  have t2 : decide (n ≥ 0) = true := decide_eq_true (by omega)
  have t3 : decide ((0 : Int) ≤ n) = true := decide_eq_true (by omega)
  have t4 : decide (n ≤ 1024) = true := decide_eq_true (by omega)
  have t5 : decide ((0 : Int) < n) = false := decide_eq_false (by omega)
  clear hk hn
  have HM1 := Aside0.mk (deckleref03_Reader_Must.calls g L 0 0 false 10 0 10 w0 w hI hB rfl)
  have HGL := Aside0.mk (blk_lt hI.choose_spec.choose_spec.1)
  clear hI hB
  go_enter Tryd.func71, Tryd.ntmps71
  go_wp2_with fail
  refine HM1.out.mono ?_
  rintro e w1 ⟨rfl, hi1, hb1, hk1⟩
  have HM2 := Aside0.mk (deckleref03_Reader_Must.calls g L 0 10 true 3 0 10 w0 w1 hi1 hb1 rfl)
  have HK1 := Aside0.mk hk1.1
  clear hi1 hb1 hk1 HM1
  go_wp2_with fail
  refine HM2.out.mono ?_
  rintro e w2 ⟨rfl, hi2, hb2, hk2⟩
  have hg2 : g < w2.heap.size := by have := HGL.out; have := HK1.out; have := hk2.1; omega
  have hz := heap_alloc_new w2 (.cells #[.int .u64 0, .string ⟨#[]⟩] 47)
  have f0 := blk_frozen hz 0
  have f1 := blk_frozen hz 1
  have HI2 := Aside0.mk (hi2.alloc (.cells #[.int .u64 0, .string ⟨#[]⟩] 47))
  have HB2 := Aside0.mk (Below.trans hb2 ((below_alloc (Below.refl w2.heap.size w2) (.cells #[.int .u64 0, .string ⟨#[]⟩] 47)).mono hb2.size))
  have HG2 := Aside0.mk hg2
  have HW2 := Aside0.mk hb2.size
  have HZ := Aside0.mk hz
  have HLB := Aside0.mk (blk_lt hz)
  clear hi2 hb2 hk2 HM2 HK1 hg2 hz HGL
  go_wp2
  obtain ⟨lb, hlb⟩ : ∃ lb, w2.heap.size = lb := ⟨_, rfl⟩
  obtain ⟨W2, hW2⟩ : ∃ W2, w2.alloc (.cells #[.int .u64 0, .string ⟨#[]⟩] 47) = W2 := ⟨_, rfl⟩
  rw [hW2] at HI2 HB2 HZ HLB ⊢
  rw [hlb] at HG2 HW2 HZ HLB ⊢
  clear hW2 f0 f1 hlb
  go_loopw [7] (fun v wr => v = .slice none 0 0 ∧ Aside0 (IsS115 w0 wr g L 0 10) ∧ Aside0 (Below w0.heap.size w0 wr)) (fun _ _ => 0)
  case atStart => exact ⟨rfl, ⟨HI2.out⟩, ⟨HB2.out⟩⟩
  case round =>
    clear HI2 HB2 HZ
    obtain ⟨rfl, HI, HB⟩ := hrel
    have cg : wr.cell? ⟨g, 2, none⟩ = some (.int .i64 10) := by obtain ⟨A, c, hb, -⟩ := HI.out; exact (blk_cell hb 2).trans rfl
    go_wp2
    go_ret
    exact ⟨_, rfl, HI.out, HB.out, ⟨none, 0, 0, rfl⟩, fun h => absurd (show (10 : Int) = 0 from h) (by decide)⟩
set_option maxHeartbeats 16000000 in
theorem rt_neg_ok {w0 w : World} {g : Nat} {L : List Int} (hI : IsS115 w0 w g L 0 0) (hB : Below w0.heap.size w0 w) (k n : Int) (hk : k < 0) (hn : 0 < n ∧ n ≤ 1024) :
    Calls Tryd.prog 71 #[.pointer (some ⟨g, 0, none⟩), .int .i64 k, .int .i64 n] w (RtFin w0 g L ([], 0, 10)) := by
  have t0 : decide (k ≥ 0) = false := decide_eq_false (by omega)
  have t1 : decide ((0 : Int) ≤ k) = false := decide_eq_false (by omega)
  have t2 : decide (n ≥ 0) = true := decide_eq_true (by omega)
  have t3 : decide ((0 : Int) ≤ n) = true := decide_eq_true (by omega)
  have t4 : decide (n ≤ 1024) = true := decide_eq_true (by omega)
  have t5 : decide ((0 : Int) < n) = true := decide_eq_true (by omega)
  clear hk hn
  have HM1 := Aside0.mk (deckleref03_Reader_Must.calls g L 0 0 false 10 0 10 w0 w hI hB rfl)
  have HGL := Aside0.mk (blk_lt hI.choose_spec.choose_spec.1)
  clear hI hB
  go_enter Tryd.func71, Tryd.ntmps71
  go_wp2_with fail
  refine HM1.out.mono ?_
  rintro e w1 ⟨rfl, hi1, hb1, hk1⟩
  have HM2 := Aside0.mk (deckleref03_Reader_Must.calls g L 0 10 true 3 0 10 w0 w1 hi1 hb1 rfl)
  have HK1 := Aside0.mk hk1.1
  clear hi1 hb1 hk1 HM1
  go_wp2_with fail
  refine HM2.out.mono ?_
  rintro e w2 ⟨rfl, hi2, hb2, hk2⟩
  have hg2 : g < w2.heap.size := by have := HGL.out; have := HK1.out; have := hk2.1; omega
  have hz := heap_alloc_new w2 (.cells #[.int .u64 0, .string ⟨#[]⟩] 47)
  have f0 := blk_frozen hz 0
  have f1 := blk_frozen hz 1
  have HI2 := Aside0.mk (hi2.alloc (.cells #[.int .u64 0, .string ⟨#[]⟩] 47))
  have HB2 := Aside0.mk (Below.trans hb2 ((below_alloc (Below.refl w2.heap.size w2) (.cells #[.int .u64 0, .string ⟨#[]⟩] 47)).mono hb2.size))
  have HG2 := Aside0.mk hg2
  have HW2 := Aside0.mk hb2.size
  have HZ := Aside0.mk hz
  have HLB := Aside0.mk (blk_lt hz)
  clear hi2 hb2 hk2 HM2 HK1 hg2 hz HGL
  go_wp2
  obtain ⟨lb, hlb⟩ : ∃ lb, w2.heap.size = lb := ⟨_, rfl⟩
  obtain ⟨W2, hW2⟩ : ∃ W2, w2.alloc (.cells #[.int .u64 0, .string ⟨#[]⟩] 47) = W2 := ⟨_, rfl⟩
  rw [hW2] at HI2 HB2 HZ HLB ⊢
  rw [hlb] at HG2 HW2 HZ HLB ⊢
  clear hW2 f0 f1 hlb
  go_loopw [7] (fun v wr => v = .slice none 0 0 ∧ Aside0 (IsS115 w0 wr g L 0 10) ∧ Aside0 (Below w0.heap.size w0 wr)) (fun _ _ => 0)
  case atStart => exact ⟨rfl, ⟨HI2.out⟩, ⟨HB2.out⟩⟩
  case round =>
    clear HI2 HB2 HZ
    obtain ⟨rfl, HI, HB⟩ := hrel
    have cg : wr.cell? ⟨g, 2, none⟩ = some (.int .i64 10) := by obtain ⟨A, c, hb, -⟩ := HI.out; exact (blk_cell hb 2).trans rfl
    go_wp2
    go_ret
    exact ⟨_, rfl, HI.out, HB.out, ⟨none, 0, 0, rfl⟩, fun h => absurd (show (10 : Int) = 0 from h) (by decide)⟩
set_option maxHeartbeats 16000000 in
theorem rt_big_neg {w0 w : World} {g : Nat} {L : List Int} (hI : IsS115 w0 w g L 0 0) (hB : Below w0.heap.size w0 w) (k n : Int) (hk : 5 < k) (hn : n < 0) :
    Calls Tryd.prog 71 #[.pointer (some ⟨g, 0, none⟩), .int .i64 k, .int .i64 n] w (RtFin w0 g L ([], 0, 10)) := by
  have t0 : decide (k ≥ 0) = true := decide_eq_true (by omega)
  have t1 : decide ((0 : Int) ≤ k) = true := decide_eq_true (by omega)
  have t2 : decide (k ≤ 5) = false := decide_eq_false (by omega)
  have t3 : decide (n ≥ 0) = false := decide_eq_false (by omega)
  have t4 : decide ((0 : Int) ≤ n) = false := decide_eq_false (by omega)
  have t5 : decide ((0 : Int) < n) = false := decide_eq_false (by omega)
  clear hk hn
  have HM1 := Aside0.mk (deckleref03_Reader_Must.calls g L 0 0 false 10 0 10 w0 w hI hB rfl)
  have HGL := Aside0.mk (blk_lt hI.choose_spec.choose_spec.1)
  clear hI hB
  go_enter Tryd.func71, Tryd.ntmps71
  go_wp2_with fail
  refine HM1.out.mono ?_
  rintro e w1 ⟨rfl, hi1, hb1, hk1⟩
  have HM2 := Aside0.mk (deckleref03_Reader_Must.calls g L 0 10 false 3 0 10 w0 w1 hi1 hb1 rfl)
  have HK1 := Aside0.mk hk1.1
  clear hi1 hb1 hk1 HM1
  go_wp2_with fail
  refine HM2.out.mono ?_
  rintro e w2 ⟨rfl, hi2, hb2, hk2⟩
  have hg2 : g < w2.heap.size := by have := HGL.out; have := HK1.out; have := hk2.1; omega
  have hz := heap_alloc_new w2 (.cells #[.int .u64 0, .string ⟨#[]⟩] 47)
  have f0 := blk_frozen hz 0
  have f1 := blk_frozen hz 1
  have HI2 := Aside0.mk (hi2.alloc (.cells #[.int .u64 0, .string ⟨#[]⟩] 47))
  have HB2 := Aside0.mk (Below.trans hb2 ((below_alloc (Below.refl w2.heap.size w2) (.cells #[.int .u64 0, .string ⟨#[]⟩] 47)).mono hb2.size))
  have HG2 := Aside0.mk hg2
  have HW2 := Aside0.mk hb2.size
  have HZ := Aside0.mk hz
  have HLB := Aside0.mk (blk_lt hz)
  clear hi2 hb2 hk2 HM2 HK1 hg2 hz HGL
  go_wp2
  obtain ⟨lb, hlb⟩ : ∃ lb, w2.heap.size = lb := ⟨_, rfl⟩
  obtain ⟨W2, hW2⟩ : ∃ W2, w2.alloc (.cells #[.int .u64 0, .string ⟨#[]⟩] 47) = W2 := ⟨_, rfl⟩
  rw [hW2] at HI2 HB2 HZ HLB ⊢
  rw [hlb] at HG2 HW2 HZ HLB ⊢
  clear hW2 f0 f1 hlb
  go_loopw [7] (fun v wr => v = .slice none 0 0 ∧ Aside0 (IsS115 w0 wr g L 0 10) ∧ Aside0 (Below w0.heap.size w0 wr)) (fun _ _ => 0)
  case atStart => exact ⟨rfl, ⟨HI2.out⟩, ⟨HB2.out⟩⟩
  case round =>
    clear HI2 HB2 HZ
    obtain ⟨rfl, HI, HB⟩ := hrel
    have cg : wr.cell? ⟨g, 2, none⟩ = some (.int .i64 10) := by obtain ⟨A, c, hb, -⟩ := HI.out; exact (blk_cell hb 2).trans rfl
    go_wp2
    go_ret
    exact ⟨_, rfl, HI.out, HB.out, ⟨none, 0, 0, rfl⟩, fun h => absurd (show (10 : Int) = 0 from h) (by decide)⟩
set_option maxHeartbeats 16000000 in
theorem rt_big_big {w0 w : World} {g : Nat} {L : List Int} (hI : IsS115 w0 w g L 0 0) (hB : Below w0.heap.size w0 w) (k n : Int) (hk : 5 < k) (hn : 1024 < n) :
    Calls Tryd.prog 71 #[.pointer (some ⟨g, 0, none⟩), .int .i64 k, .int .i64 n] w (RtFin w0 g L ([], 0, 10)) := by
  have t0 : decide (k ≥ 0) = true := decide_eq_true (by omega)
  have t1 : decide ((0 : Int) ≤ k) = true := decide_eq_true (by omega)
  have t2 : decide (k ≤ 5) = false := decide_eq_false (by omega)
  have t3 : decide (n ≥ 0) = true := decide_eq_true (by omega)
  have t4 : decide ((0 : Int) ≤ n) = true := decide_eq_true (by omega)
  have t5 : decide (n ≤ 1024) = false := decide_eq_false (by omega)
  have t6 : decide ((0 : Int) < n) = true := decide_eq_true (by omega)
  clear hk hn
  have HM1 := Aside0.mk (deckleref03_Reader_Must.calls g L 0 0 false 10 0 10 w0 w hI hB rfl)
  have HGL := Aside0.mk (blk_lt hI.choose_spec.choose_spec.1)
  clear hI hB
  go_enter Tryd.func71, Tryd.ntmps71
  go_wp2_with fail
  refine HM1.out.mono ?_
  rintro e w1 ⟨rfl, hi1, hb1, hk1⟩
  have HM2 := Aside0.mk (deckleref03_Reader_Must.calls g L 0 10 false 3 0 10 w0 w1 hi1 hb1 rfl)
  have HK1 := Aside0.mk hk1.1
  clear hi1 hb1 hk1 HM1
  go_wp2_with fail
  refine HM2.out.mono ?_
  rintro e w2 ⟨rfl, hi2, hb2, hk2⟩
  have hg2 : g < w2.heap.size := by have := HGL.out; have := HK1.out; have := hk2.1; omega
  have hz := heap_alloc_new w2 (.cells #[.int .u64 0, .string ⟨#[]⟩] 47)
  have f0 := blk_frozen hz 0
  have f1 := blk_frozen hz 1
  have HI2 := Aside0.mk (hi2.alloc (.cells #[.int .u64 0, .string ⟨#[]⟩] 47))
  have HB2 := Aside0.mk (Below.trans hb2 ((below_alloc (Below.refl w2.heap.size w2) (.cells #[.int .u64 0, .string ⟨#[]⟩] 47)).mono hb2.size))
  have HG2 := Aside0.mk hg2
  have HW2 := Aside0.mk hb2.size
  have HZ := Aside0.mk hz
  have HLB := Aside0.mk (blk_lt hz)
  clear hi2 hb2 hk2 HM2 HK1 hg2 hz HGL
  go_wp2
  obtain ⟨lb, hlb⟩ : ∃ lb, w2.heap.size = lb := ⟨_, rfl⟩
  obtain ⟨W2, hW2⟩ : ∃ W2, w2.alloc (.cells #[.int .u64 0, .string ⟨#[]⟩] 47) = W2 := ⟨_, rfl⟩
  rw [hW2] at HI2 HB2 HZ HLB ⊢
  rw [hlb] at HG2 HW2 HZ HLB ⊢
  clear hW2 f0 f1 hlb
  go_loopw [7] (fun v wr => v = .slice none 0 0 ∧ Aside0 (IsS115 w0 wr g L 0 10) ∧ Aside0 (Below w0.heap.size w0 wr)) (fun _ _ => 0)
  case atStart => exact ⟨rfl, ⟨HI2.out⟩, ⟨HB2.out⟩⟩
  case round =>
    clear HI2 HB2 HZ
    obtain ⟨rfl, HI, HB⟩ := hrel
    have cg : wr.cell? ⟨g, 2, none⟩ = some (.int .i64 10) := by obtain ⟨A, c, hb, -⟩ := HI.out; exact (blk_cell hb 2).trans rfl
    go_wp2
    go_ret
    exact ⟨_, rfl, HI.out, HB.out, ⟨none, 0, 0, rfl⟩, fun h => absurd (show (10 : Int) = 0 from h) (by decide)⟩
set_option maxHeartbeats 16000000 in
theorem rt_big_ok0 {w0 w : World} {g : Nat} {L : List Int} (hI : IsS115 w0 w g L 0 0) (hB : Below w0.heap.size w0 w) (k n : Int) (hk : 5 < k) (hn : n = 0) :
    Calls Tryd.prog 71 #[.pointer (some ⟨g, 0, none⟩), .int .i64 k, .int .i64 n] w (RtFin w0 g L ([], 0, 10)) := by
  have t0 : decide (k ≥ 0) = true := decide_eq_true (by omega)
  have t1 : decide ((0 : Int) ≤ k) = true := decide_eq_true (by omega)
  have t2 : decide (k ≤ 5) = false := decide_eq_false (by omega)
  have t3 : decide (n ≥ 0) = true := decide_eq_true (by omega)
  have t4 : decide ((0 : Int) ≤ n) = true := decide_eq_true (by omega)
  have t5 : decide (n ≤ 1024) = true := decide_eq_true (by omega)
  have t6 : decide ((0 : Int) < n) = false := decide_eq_false (by omega)
  clear hk hn
  have HM1 := Aside0.mk (deckleref03_Reader_Must.calls g L 0 0 false 10 0 10 w0 w hI hB rfl)
  have HGL := Aside0.mk (blk_lt hI.choose_spec.choose_spec.1)
  clear hI hB
  go_enter Tryd.func71, Tryd.ntmps71
  go_wp2_with fail
  refine HM1.out.mono ?_
  rintro e w1 ⟨rfl, hi1, hb1, hk1⟩
  have HM2 := Aside0.mk (deckleref03_Reader_Must.calls g L 0 10 true 3 0 10 w0 w1 hi1 hb1 rfl)
  have HK1 := Aside0.mk hk1.1
  clear hi1 hb1 hk1 HM1
  go_wp2_with fail
  refine HM2.out.mono ?_
  rintro e w2 ⟨rfl, hi2, hb2, hk2⟩
  have hg2 : g < w2.heap.size := by have := HGL.out; have := HK1.out; have := hk2.1; omega
  have hz := heap_alloc_new w2 (.cells #[.int .u64 0, .string ⟨#[]⟩] 47)
  have f0 := blk_frozen hz 0
  have f1 := blk_frozen hz 1
  have HI2 := Aside0.mk (hi2.alloc (.cells #[.int .u64 0, .string ⟨#[]⟩] 47))
  have HB2 := Aside0.mk (Below.trans hb2 ((below_alloc (Below.refl w2.heap.size w2) (.cells #[.int .u64 0, .string ⟨#[]⟩] 47)).mono hb2.size))
  have HG2 := Aside0.mk hg2
  have HW2 := Aside0.mk hb2.size
  have HZ := Aside0.mk hz
  have HLB := Aside0.mk (blk_lt hz)
  clear hi2 hb2 hk2 HM2 HK1 hg2 hz HGL
  go_wp2
  obtain ⟨lb, hlb⟩ : ∃ lb, w2.heap.size = lb := ⟨_, rfl⟩
  obtain ⟨W2, hW2⟩ : ∃ W2, w2.alloc (.cells #[.int .u64 0, .string ⟨#[]⟩] 47) = W2 := ⟨_, rfl⟩
  rw [hW2] at HI2 HB2 HZ HLB ⊢
  rw [hlb] at HG2 HW2 HZ HLB ⊢
  clear hW2 f0 f1 hlb
  go_loopw [7] (fun v wr => v = .slice none 0 0 ∧ Aside0 (IsS115 w0 wr g L 0 10) ∧ Aside0 (Below w0.heap.size w0 wr)) (fun _ _ => 0)
  case atStart => exact ⟨rfl, ⟨HI2.out⟩, ⟨HB2.out⟩⟩
  case round =>
    clear HI2 HB2 HZ
    obtain ⟨rfl, HI, HB⟩ := hrel
    have cg : wr.cell? ⟨g, 2, none⟩ = some (.int .i64 10) := by obtain ⟨A, c, hb, -⟩ := HI.out; exact (blk_cell hb 2).trans rfl
    go_wp2
    go_ret
    exact ⟨_, rfl, HI.out, HB.out, ⟨none, 0, 0, rfl⟩, fun h => absurd (show (10 : Int) = 0 from h) (by decide)⟩
set_option maxHeartbeats 16000000 in
theorem rt_big_ok {w0 w : World} {g : Nat} {L : List Int} (hI : IsS115 w0 w g L 0 0) (hB : Below w0.heap.size w0 w) (k n : Int) (hk : 5 < k) (hn : 0 < n ∧ n ≤ 1024) :
    Calls Tryd.prog 71 #[.pointer (some ⟨g, 0, none⟩), .int .i64 k, .int .i64 n] w (RtFin w0 g L ([], 0, 10)) := by
  have t0 : decide (k ≥ 0) = true := decide_eq_true (by omega)
  have t1 : decide ((0 : Int) ≤ k) = true := decide_eq_true (by omega)
  have t2 : decide (k ≤ 5) = false := decide_eq_false (by omega)
  have t3 : decide (n ≥ 0) = true := decide_eq_true (by omega)
  have t4 : decide ((0 : Int) ≤ n) = true := decide_eq_true (by omega)
  have t5 : decide (n ≤ 1024) = true := decide_eq_true (by omega)
  have t6 : decide ((0 : Int) < n) = true := decide_eq_true (by omega)
  clear hk hn
  have HM1 := Aside0.mk (deckleref03_Reader_Must.calls g L 0 0 false 10 0 10 w0 w hI hB rfl)
  have HGL := Aside0.mk (blk_lt hI.choose_spec.choose_spec.1)
  clear hI hB
  go_enter Tryd.func71, Tryd.ntmps71
  go_wp2_with fail
  refine HM1.out.mono ?_
  rintro e w1 ⟨rfl, hi1, hb1, hk1⟩
  have HM2 := Aside0.mk (deckleref03_Reader_Must.calls g L 0 10 true 3 0 10 w0 w1 hi1 hb1 rfl)
  have HK1 := Aside0.mk hk1.1
  clear hi1 hb1 hk1 HM1
  go_wp2_with fail
  refine HM2.out.mono ?_
  rintro e w2 ⟨rfl, hi2, hb2, hk2⟩
  have hg2 : g < w2.heap.size := by have := HGL.out; have := HK1.out; have := hk2.1; omega
  have hz := heap_alloc_new w2 (.cells #[.int .u64 0, .string ⟨#[]⟩] 47)
  have f0 := blk_frozen hz 0
  have f1 := blk_frozen hz 1
  have HI2 := Aside0.mk (hi2.alloc (.cells #[.int .u64 0, .string ⟨#[]⟩] 47))
  have HB2 := Aside0.mk (Below.trans hb2 ((below_alloc (Below.refl w2.heap.size w2) (.cells #[.int .u64 0, .string ⟨#[]⟩] 47)).mono hb2.size))
  have HG2 := Aside0.mk hg2
  have HW2 := Aside0.mk hb2.size
  have HZ := Aside0.mk hz
  have HLB := Aside0.mk (blk_lt hz)
  clear hi2 hb2 hk2 HM2 HK1 hg2 hz HGL
  go_wp2
  obtain ⟨lb, hlb⟩ : ∃ lb, w2.heap.size = lb := ⟨_, rfl⟩
  obtain ⟨W2, hW2⟩ : ∃ W2, w2.alloc (.cells #[.int .u64 0, .string ⟨#[]⟩] 47) = W2 := ⟨_, rfl⟩
  rw [hW2] at HI2 HB2 HZ HLB ⊢
  rw [hlb] at HG2 HW2 HZ HLB ⊢
  clear hW2 f0 f1 hlb
  go_loopw [7] (fun v wr => v = .slice none 0 0 ∧ Aside0 (IsS115 w0 wr g L 0 10) ∧ Aside0 (Below w0.heap.size w0 wr)) (fun _ _ => 0)
  case atStart => exact ⟨rfl, ⟨HI2.out⟩, ⟨HB2.out⟩⟩
  case round =>
    clear HI2 HB2 HZ
    obtain ⟨rfl, HI, HB⟩ := hrel
    have cg : wr.cell? ⟨g, 2, none⟩ = some (.int .i64 10) := by obtain ⟨A, c, hb, -⟩ := HI.out; exact (blk_cell hb 2).trans rfl
    go_wp2
    go_ret
    exact ⟨_, rfl, HI.out, HB.out, ⟨none, 0, 0, rfl⟩, fun h => absurd (show (10 : Int) = 0 from h) (by decide)⟩
set_option maxHeartbeats 16000000 in
theorem rt_ok_neg {w0 w : World} {g : Nat} {L : List Int} (hI : IsS115 w0 w g L 0 0) (hB : Below w0.heap.size w0 w) (k n : Int) (hk : 0 ≤ k ∧ k ≤ 5) (hn : n < 0) :
    Calls Tryd.prog 71 #[.pointer (some ⟨g, 0, none⟩), .int .i64 k, .int .i64 n] w (RtFin w0 g L ([], 0, 3)) := by
  have t0 : decide (k ≥ 0) = true := decide_eq_true (by omega)
  have t1 : decide ((0 : Int) ≤ k) = true := decide_eq_true (by omega)
  have t2 : decide (k ≤ 5) = true := decide_eq_true (by omega)
  have t3 : decide (n ≥ 0) = false := decide_eq_false (by omega)
  have t4 : decide ((0 : Int) ≤ n) = false := decide_eq_false (by omega)
  have t5 : decide ((0 : Int) < n) = false := decide_eq_false (by omega)
  clear hk hn
  have HM1 := Aside0.mk (deckleref03_Reader_Must.calls g L 0 0 true 10 0 0 w0 w hI hB rfl)
  have HGL := Aside0.mk (blk_lt hI.choose_spec.choose_spec.1)
  clear hI hB
  go_enter Tryd.func71, Tryd.ntmps71
  go_wp2_with fail
  refine HM1.out.mono ?_
  rintro e w1 ⟨rfl, hi1, hb1, hk1⟩
  have HM2 := Aside0.mk (deckleref03_Reader_Must.calls g L 0 0 false 3 0 3 w0 w1 hi1 hb1 rfl)
  have HK1 := Aside0.mk hk1.1
  clear hi1 hb1 hk1 HM1
  go_wp2_with fail
  refine HM2.out.mono ?_
  rintro e w2 ⟨rfl, hi2, hb2, hk2⟩
  have hg2 : g < w2.heap.size := by have := HGL.out; have := HK1.out; have := hk2.1; omega
  have hz := heap_alloc_new w2 (.cells #[.int .u64 0, .string ⟨#[]⟩] 47)
  have f0 := blk_frozen hz 0
  have f1 := blk_frozen hz 1
  have HI2 := Aside0.mk (hi2.alloc (.cells #[.int .u64 0, .string ⟨#[]⟩] 47))
  have HB2 := Aside0.mk (Below.trans hb2 ((below_alloc (Below.refl w2.heap.size w2) (.cells #[.int .u64 0, .string ⟨#[]⟩] 47)).mono hb2.size))
  have HG2 := Aside0.mk hg2
  have HW2 := Aside0.mk hb2.size
  have HZ := Aside0.mk hz
  have HLB := Aside0.mk (blk_lt hz)
  clear hi2 hb2 hk2 HM2 HK1 hg2 hz HGL
  go_wp2
  obtain ⟨lb, hlb⟩ : ∃ lb, w2.heap.size = lb := ⟨_, rfl⟩
  obtain ⟨W2, hW2⟩ : ∃ W2, w2.alloc (.cells #[.int .u64 0, .string ⟨#[]⟩] 47) = W2 := ⟨_, rfl⟩
  rw [hW2] at HI2 HB2 HZ HLB ⊢
  rw [hlb] at HG2 HW2 HZ HLB ⊢
  clear hW2 f0 f1 hlb
  go_loopw [7] (fun v wr => v = .slice none 0 0 ∧ Aside0 (IsS115 w0 wr g L 0 3) ∧ Aside0 (Below w0.heap.size w0 wr)) (fun _ _ => 0)
  case atStart => exact ⟨rfl, ⟨HI2.out⟩, ⟨HB2.out⟩⟩
  case round =>
    clear HI2 HB2 HZ
    obtain ⟨rfl, HI, HB⟩ := hrel
    have cg : wr.cell? ⟨g, 2, none⟩ = some (.int .i64 3) := by obtain ⟨A, c, hb, -⟩ := HI.out; exact (blk_cell hb 2).trans rfl
    go_wp2
    go_ret
    exact ⟨_, rfl, HI.out, HB.out, ⟨none, 0, 0, rfl⟩, fun h => absurd (show (3 : Int) = 0 from h) (by decide)⟩
set_option maxHeartbeats 16000000 in
theorem rt_ok_big {w0 w : World} {g : Nat} {L : List Int} (hI : IsS115 w0 w g L 0 0) (hB : Below w0.heap.size w0 w) (k n : Int) (hk : 0 ≤ k ∧ k ≤ 5) (hn : 1024 < n) :
    Calls Tryd.prog 71 #[.pointer (some ⟨g, 0, none⟩), .int .i64 k, .int .i64 n] w (RtFin w0 g L ([], 0, 3)) := by
  have t0 : decide (k ≥ 0) = true := decide_eq_true (by omega)
  have t1 : decide ((0 : Int) ≤ k) = true := decide_eq_true (by omega)
  have t2 : decide (k ≤ 5) = true := decide_eq_true (by omega)
  have t3 : decide (n ≥ 0) = true := decide_eq_true (by omega)
  have t4 : decide ((0 : Int) ≤ n) = true := decide_eq_true (by omega)
  have t5 : decide (n ≤ 1024) = false := decide_eq_false (by omega)
  have t6 : decide ((0 : Int) < n) = true := decide_eq_true (by omega)
  clear hk hn
  have HM1 := Aside0.mk (deckleref03_Reader_Must.calls g L 0 0 true 10 0 0 w0 w hI hB rfl)
  have HGL := Aside0.mk (blk_lt hI.choose_spec.choose_spec.1)
  clear hI hB
  go_enter Tryd.func71, Tryd.ntmps71
  go_wp2_with fail
  refine HM1.out.mono ?_
  rintro e w1 ⟨rfl, hi1, hb1, hk1⟩
  have HM2 := Aside0.mk (deckleref03_Reader_Must.calls g L 0 0 false 3 0 3 w0 w1 hi1 hb1 rfl)
  have HK1 := Aside0.mk hk1.1
  clear hi1 hb1 hk1 HM1
  go_wp2_with fail
  refine HM2.out.mono ?_
  rintro e w2 ⟨rfl, hi2, hb2, hk2⟩
  have hg2 : g < w2.heap.size := by have := HGL.out; have := HK1.out; have := hk2.1; omega
  have hz := heap_alloc_new w2 (.cells #[.int .u64 0, .string ⟨#[]⟩] 47)
  have f0 := blk_frozen hz 0
  have f1 := blk_frozen hz 1
  have HI2 := Aside0.mk (hi2.alloc (.cells #[.int .u64 0, .string ⟨#[]⟩] 47))
  have HB2 := Aside0.mk (Below.trans hb2 ((below_alloc (Below.refl w2.heap.size w2) (.cells #[.int .u64 0, .string ⟨#[]⟩] 47)).mono hb2.size))
  have HG2 := Aside0.mk hg2
  have HW2 := Aside0.mk hb2.size
  have HZ := Aside0.mk hz
  have HLB := Aside0.mk (blk_lt hz)
  clear hi2 hb2 hk2 HM2 HK1 hg2 hz HGL
  go_wp2
  obtain ⟨lb, hlb⟩ : ∃ lb, w2.heap.size = lb := ⟨_, rfl⟩
  obtain ⟨W2, hW2⟩ : ∃ W2, w2.alloc (.cells #[.int .u64 0, .string ⟨#[]⟩] 47) = W2 := ⟨_, rfl⟩
  rw [hW2] at HI2 HB2 HZ HLB ⊢
  rw [hlb] at HG2 HW2 HZ HLB ⊢
  clear hW2 f0 f1 hlb
  go_loopw [7] (fun v wr => v = .slice none 0 0 ∧ Aside0 (IsS115 w0 wr g L 0 3) ∧ Aside0 (Below w0.heap.size w0 wr)) (fun _ _ => 0)
  case atStart => exact ⟨rfl, ⟨HI2.out⟩, ⟨HB2.out⟩⟩
  case round =>
    clear HI2 HB2 HZ
    obtain ⟨rfl, HI, HB⟩ := hrel
    have cg : wr.cell? ⟨g, 2, none⟩ = some (.int .i64 3) := by obtain ⟨A, c, hb, -⟩ := HI.out; exact (blk_cell hb 2).trans rfl
    go_wp2
    go_ret
    exact ⟨_, rfl, HI.out, HB.out, ⟨none, 0, 0, rfl⟩, fun h => absurd (show (3 : Int) = 0 from h) (by decide)⟩
end Go.Proofs.YtmoopdhnnpjcfaaDoor.Co
