import Derived.Test.YtmoopdhnnpjcfaaDoorCoE
import Derived.Test.YtmoopdhnnpjcfaaDoorRdF
import Derived.Test.YtmoopdhnnpjcfaaDoorWRepsOne
/-! Column: cells taken off a reader; bools. -/
namespace Go.Proofs.YtmoopdhnnpjcfaaDoor.Co
open Go.RowKit Go.Proofs.YtmoopdhnnpjcfaaDoorW.PrintWords Go.Proofs.YtmoopdhnnpjcfaaDoorW.PrintLast Go.Proofs.YtmoopdhnnpjcfaaDoorW.PrintMore Go.Proofs.YtmoopdhnnpjcfaaDoor.Wire Go.Proofs.YtmoopdhnnpjcfaaDoor.PCo Go.Proofs.YtmoopdhnnpjcfaaDoor.CoG Go.Proofs.YtmoopdhnnpjcfaaDoor.Rd
set_option linter.unusedVariables false
set_option linter.unusedSimpArgs false
set_option maxRecDepth 100000
theorem infoC : (Tryd.prog.info? 47).map (fun i => (i.zero, i.size, i.bytes)) = some (some (.agg #[.int .u64 0, .string ⟨#[]⟩]), 2, 24) := by kernel_rfl
/-- Cells that are taken off a reader: a bytes are gone, xs are there. W: when the taking began. -/
structure Tk (w0 W w' : World) (g : Nat) (A : Option Addr) (c : Nat) (l : List Int) (a : Nat) (v : Value) (xs : List S47) : Prop where
  rd : Rd w0 w' g A c l a
  kp : Kp (fun k => k = g) W w'
  row : Kd.R k47 47 w' w0.heap.size (fun k => W.heap.size ≤ k) v xs
namespace Tk
variable {w0 W W1 w' : World} {g : Nat} {A : Option Addr} {c : Nat} {l : List Int} {a b : Nat} {v : Value} {xs : List S47}
theorem start (h : Rd w0 W g A c l a) : Tk w0 W W g A c l a (.slice none 0 0) [] := ⟨h, Kp.refl _ _, Kd.R_nil _ _ _ _ _⟩
theorem glt (h : Rd w0 W g A c l a) : g < W.heap.size := blk_lt h.at_
theorem step (h : Tk w0 W W1 g A c l a v xs) (hg : g < W.heap.size) (hrd : Rd w0 w' g A c l b) (hk : Kp (fun k => k = g) W1 w') : Tk w0 W w' g A c l b v xs :=
  ⟨hrd, h.kp.trans hk, Kd.R_kept h.row hk.kept (fun k hk he => by omega)⟩
theorem below (h : Tk w0 W W1 g A c l a v xs) (hb : Below W1.heap.size W1 w') : Tk w0 W w' g A c l a v xs :=
  ⟨h.rd.below hb, h.kp.below hb, Kd.R_below h.row hb⟩
/-- After an append. -/
theorem grown (h : Tk w0 W W1 g A c l a v xs) (hg : g < W.heap.size) {v1 : Value} {ys : List S47} (hr : Kd.R k47 47 w' w0.heap.size (fun k => W.heap.size ≤ k) v1 ys) (hgr : W1.grownBy w' v.ownBlock) : Tk w0 W w' g A c l a v1 ys :=
  have hos : Kp (fun k => W.heap.size ≤ k) W1 w' := ⟨hgr.os, hgr.tape, hgr.output, hgr.size, fun k hk hn => hgr.block k hk (fun e => hn (h.row.1 k e.symm))⟩
  ⟨h.rd.keep hos (fun k hk => ⟨by have := h.rd.old; omega, by omega⟩), h.kp.then_ hos (fun k hk => .inr hk), hr⟩
end Tk
/-- How the taking ends: the cells, or the error. -/
def Took (w0 W : World) (g : Nat) (A : Option Addr) (c : Nat) (l : List Int) (r : List S47 × Nat × Int) (e : Ending) (w' : World) : Prop :=
  (r.2.2 = 0 ∧ ∃ v, e = .returned v ∧ Tk w0 W w' g A c l r.2.1 v r.1) ∨ (r.2.2 ≠ 0 ∧ e = .panicked [ends g r.2.2] ∧ Rd w0 w' g A c l r.2.1 ∧ Kp (fun k => k = g) W w')
def bitc (c : Int) (k : Nat) : S47 := ⟨c / 2 ^ k % 2, ⟨#[]⟩⟩
def row8 (c : Int) : Nat → List S47
  | 0 => []
  | k + 1 => row8 c k ++ [bitc c k]
theorem row8_len (c : Int) (k : Nat) : (row8 c k).length = k := by
  induction k with
  | zero => rfl
  | succ k ih => rw [row8, List.length_append, ih]; rfl
/-- Bools that are taken: f rounds at most. -/
def tb (l : List Int) (n : Nat) : Nat → Nat → List S47 → List S47 × Nat × Int
  | 0, a, xs => (xs, a, 0)
  | f + 1, a, xs => if xs.length < n then (if a < l.length then (if rd l (a : Int) / 2 ^ (min 8 (n - xs.length)) = 0 then tb l n f (a + 1) (xs ++ row8 (rd l (a : Int)) (min 8 (n - xs.length))) else ([], a + 1, 6)) else ([], a, 5)) else (xs, a, 0)
theorem and1 : ∀ c : Fin 256, ∀ k : Fin 8, bits .and IntKind.u8 (Go.Proofs.YtmoopdhnnpjcfaaDoorW.PrintWords.shr .u8 (c.val : Int) (k.val : Int)) 1 = (c.val : Int) / 2 ^ k.val % 2 := by decide +kernel
theorem and1_ {c : Int} (h0 : 0 ≤ c) (h1 : c < 256) {k : Nat} (hk : k < 8) : bits .and IntKind.u8 (Go.Proofs.YtmoopdhnnpjcfaaDoorW.PrintWords.shr .u8 c (k : Int)) 1 = c / 2 ^ k % 2 := by
  obtain ⟨n, rfl⟩ := Int.eq_ofNat_of_zero_le h0
  exact and1 ⟨n, by omega⟩ ⟨k, hk⟩
set_option maxHeartbeats 8000000 in
theorem takeBools_calls {w0 W : World} {g : Nat} {A : Option Addr} {c : Nat} {l : List Int} {a : Nat} (h : Rd w0 W g A c l a) (n : Nat) (hn : n ≤ 1024) :
    Calls Tryd.prog 117 #[.pointer (some ⟨g, 0, none⟩), .int .i64 (n : Int)] W (Took w0 W g A c l (tb l n (n + 1) a [])) := by
  obtain ⟨r, hr⟩ : ∃ r, tb l n (n + 1) a [] = r := ⟨_, rfl⟩
  rw [hr]
  have H := Aside0.mk (Tk.start h)
  have HG := Aside0.mk (Tk.glt h)
  have HR := Aside0.mk hr
  clear h hr
  go_enter Tryd.func117, Tryd.ntmps117
  go_wp2
  go_loopw [5] (fun v wr => ∃ (a2 f : Nat) (xs : List S47), xs.length ≤ n ∧ Aside0 (n < xs.length + f) ∧ Aside0 (xs.length % 8 = 0 ∨ xs.length = n) ∧ Aside0 (tb l n f a2 xs = r) ∧ Aside0 (Tk w0 W wr g A c l a2 v xs) ∧ (∃ B d, v = .slice B xs.length d)) (fun v _ => match v with | .slice _ m _ => n - m | _ => 0)
  case atStart => exact ⟨a, n + 1, [], by simp, ⟨by simp⟩, ⟨.inl rfl⟩, ⟨HR.out⟩, ⟨H.out⟩, none, 0, rfl⟩
  case round =>
    obtain ⟨a2, f, xs, hx, HF, H8, HT, HK, B, d, rfl⟩ := hrel
    clear H HR
    obtain ⟨m, hm⟩ : ∃ m, xs.length = m := ⟨_, rfl⟩
    have HM := Aside0.mk hm
    rw [hm] at hx HF H8 HK ⊢
    obtain ⟨f, rfl⟩ : ∃ q, f = q + 1 := ⟨f - 1, by have := HF.out; omega⟩
    by_cases hlt : m < n
    · have u1 : decide ((m : Int) < (n : Int)) = true := decide_eq_true (by omega)
      have u2 : decide (m < n) = true := decide_eq_true hlt
      have HLT := Aside0.mk hlt
      clear hm
      by_cases hend : a2 < l.length
      · have HBY := Aside0.mk (HK.out.rd.byte_step hend)
        have hby := HK.out.rd.by_.rd_ a2
        obtain ⟨C, hC⟩ : ∃ C, rd l (a2 : Int) = C := ⟨_, rfl⟩
        rw [hC] at HBY hby
        have HE := Aside0.mk hend
        have HC := Aside0.mk hC
        clear hend hC
        go_wp2_with fail
        refine HBY.out.mono ?_
        rintro e w2 ⟨rfl, hrd, hkp⟩
        have HK2 := Aside0.mk (HK.out.step HG.out hrd hkp)
        clear hrd hkp HBY HK
        go_wp2_with fail
        obtain ⟨q, hq⟩ : ∃ q, min 8 (n - m) = q := ⟨_, rfl⟩
        rw [show min 8 ((n : Int) - (m : Int)) = (q : Int) by omega]
        have HQ := Aside0.mk hq
        clear hq
        go_loopw [5, 7, 20] (fun v _ i wr => ∃ j : Nat, j ≤ q ∧ i = .int .i64 (j : Int) ∧ Aside0 (Tk w0 W wr g A c l (a2 + 1) v (xs ++ row8 C j)) ∧ (∃ B d, v = .slice B (m + j) d)) (fun _ _ i _ => q - (intOf i).toNat)
        case atStart => exact ⟨0, by omega, rfl, ⟨by rw [row8, List.append_nil]; exact HK2.out⟩, B, d, rfl⟩
        case round =>
          clear HK2
          obtain ⟨j, hj, rfl, HK, B2, d2, rfl⟩ := hrel
          by_cases hjq : j < q
          · have q1 : decide ((j : Int) < (q : Int)) = true := decide_eq_true (by omega)
            have q2 : decide (j < q) = true := decide_eq_true hjq
            have HJQ := Aside0.mk hjq
            have hj8 : j < 8 := by have := HQ.out; omega
            have p1 : (0 ≤ (j : Int)) = True := eq_true (by omega)
            have hmax : (j : Int) + 1 ≤ 9223372036854775807 := by omega
            have HY := Aside0.mk (show IntKind.u64.wrap (bits .and .u8 (C / 2 ^ min j 8) 1) = C / 2 ^ j % 2 from by
              have h1 := and1_ hby.1 hby.2 hj8
              unfold Go.Proofs.YtmoopdhnnpjcfaaDoorW.PrintWords.shr at h1
              rw [Int.toNat_natCast, show IntKind.u8.bits = 8 from rfl] at h1
              rw [h1, IntKind.wrap_u64]
              omega)
            have HRW := Aside0.mk (show xs ++ row8 C (j + 1) = (xs ++ row8 C j) ++ [(⟨C / 2 ^ j % 2, ⟨#[]⟩⟩ : S47)] from by rw [row8, List.append_assoc]; rfl)
            have HLE := Aside0.mk (show (xs ++ row8 C j).length = m + j from by rw [List.length_append, row8_len, HM.out])
            have HHG := Aside0.mk (show ∀ k, wr.heap.size ≤ k → W.heap.size ≤ k from fun k hk => by have := HK.out.kp.size; omega)
            have HOB := Aside0.mk (show w0.heap.size ≤ wr.heap.size from by have := HK.out.rd.base.size; omega)
            obtain ⟨M, hM⟩ : ∃ M, m + j = M := ⟨_, rfl⟩
            have HMJ := Aside0.mk hM
            rw [hM] at HK HLE ⊢
            clear hj hjq HLT u1 u2 hx hby hj8 hM
            iterate 48 go_step
            rw [HY.out]
            obtain ⟨y, hy⟩ : ∃ y, C / 2 ^ j % 2 = y := ⟨_, rfl⟩
            rw [hy] at HRW ⊢
            clear hy HY
            go_wp2_with (at_builtin; refine Kd.R_append k47 (w0 := w0) w0.heap.size rfl (.tmp 23) (.tmp 30) 22 47 (.agg #[.int .u64 0, .string ⟨#[]⟩]) 24 rfl Tryd.underlying22 infoC rfl (by decide) (by decide) _ (xs ++ row8 C j) ⟨y, ⟨#[]⟩⟩ [.int .u64 y, .string ⟨#[]⟩] (fun k => W.heap.size ≤ k) (fun _ => False) rfl rfl (k47_mkM _ _ _ _) (fun _ h => h.elim) HHG.out HK.out.row HK.out.rd.base HOB.out ?aL ?_; (case aL => have := HLE.out; have := HMJ.out; have := HJQ.out; have := HQ.out; omega); intro v1 w1 hr1 hb1 hg1 hat1; have HK1 := Aside0.mk (HK.out.grown HG.out hr1 hg1); obtain ⟨B3, d3, hv1⟩ := Kd.R_slice hr1; rw [List.length_append, HLE.out, ← HMJ.out, show m + j + [(⟨y, ⟨#[]⟩⟩ : S47)].length = m + (j + 1) from by simp; omega] at hv1; subst hv1; clear hr1 hb1 hg1 hat1)
            go_roundw
            case rel => exact ⟨j + 1, HJQ.out, by go_num, ⟨by rw [HRW.out]; exact HK1.out⟩, B3, d3, rfl⟩
            case measure => have := HJQ.out; simp [intOf]; omega
          · have q1 : decide ((j : Int) < (q : Int)) = false := decide_eq_false (by omega)
            have q2 : decide (j < q) = false := decide_eq_false hjq
            obtain rfl : q = j := by omega
            clear hj hjq
            have hq8 : q ≤ 8 := by have := HQ.out; omega
            have hq1 : 1 ≤ q := by have := HQ.out; omega
            have hmq : m + q ≤ n := by have := HQ.out; omega
            have hsh : 8 - (8 * ((m + q + 7) / 8) - (m + q)) = q := by
              have := HQ.out
              have := H8.out
              omega
            have HE8 := Aside0.mk (show C / 2 ^ q ≠ 0 → q < 8 from fun h => by
              by_cases e : q = 8
              · subst e; exact absurd (by omega) h
              · omega)
            have HRES := Aside0.mk (show (if C / 2 ^ q = 0 then tb l n f (a2 + 1) (xs ++ row8 C q) else ([], a2 + 1, 6)) = r from by
              have := HT.out
              rw [tb, if_pos (by rw [HM.out]; exact HLT.out), if_pos HE.out, HC.out, HM.out, HQ.out] at this
              exact this)
            have HLQ := Aside0.mk (show (xs ++ row8 C q).length = m + q from by rw [List.length_append, row8_len, HM.out])
            have HN := Aside0.mk (show (m + q) % 8 = 0 ∨ m + q = n from by have := HQ.out; have := H8.out; omega)
            have HMQ := Aside0.mk hmq
            have HQ1 := Aside0.mk hq1
            clear hx hby u1 u2 hlt q1 q2
            have HSH := Aside0.mk hsh
            clear hsh
            go_wp2_with fail
            · have hz : C / 2 ^ (8 - (8 * ((m + q + 7) / 8) - (m + q))) = 0 := by assumption
              rw [HSH.out] at hz
              have HMU := Aside0.mk (HK.out.rd.must_step true 6 (.inl rfl))
              have HNX := Aside0.mk (show tb l n f (a2 + 1) (xs ++ row8 C q) = r from by have := HRES.out; rwa [if_pos hz] at this)
              clear hz
              refine HMU.out.mono ?_
              rintro e w2 ⟨rfl, hrd, hkp⟩
              have HK2 := Aside0.mk (HK.out.step HG.out hrd hkp)
              clear hrd hkp HMU HK
              go_wp2_with fail
              go_roundw
              case rel => exact ⟨a2 + 1, f, xs ++ row8 C q, by rw [HLQ.out]; exact HMQ.out, ⟨by rw [HLQ.out]; have := HF.out; have := HQ1.out; omega⟩, ⟨by rw [HLQ.out]; exact HN.out⟩, ⟨HNX.out⟩, ⟨HK2.out⟩, B2, d2, by rw [HLQ.out]⟩
              case measure => have := HMQ.out; have := HQ1.out; have := HLT.out; simp; omega
            · have hz : ¬ C / 2 ^ (8 - (8 * ((m + q + 7) / 8) - (m + q))) = 0 := by assumption
              rw [HSH.out] at hz
              have h8 := HE8.out hz
              have HMU := Aside0.mk (HK.out.rd.must_end 6 (by decide))
              have HNX := Aside0.mk (show r = ([], a2 + 1, 6) from by have := HRES.out; rw [if_neg hz] at this; exact this.symm)
              have hne : ¬ 8 * (((m : Int) + (q : Int) + 7) / 8) = (m : Int) + (q : Int) := by have := HQ.out; have := H8.out; omega
              rw [HSH.out, show (C / 2 ^ q == 0 || 8 * (((m : Int) + (q : Int) + 7) / 8) == (m : Int) + (q : Int)) = false from by rw [beq_eq_false_iff_ne.mpr hz, beq_eq_false_iff_ne.mpr hne]; rfl]
              clear hz
              refine HMU.out.mono ?_
              rintro e w2 ⟨rfl, hrd, hkp⟩
              have hfin : Took w0 W g A c l r (.panicked [ends g 6]) w2 := by rw [HNX.out]; exact .inr ⟨by show (6 : Int) ≠ 0; decide, rfl, hrd, (HK.out.step HG.out hrd hkp).kp⟩
              (try simp only [Exit.inBlock, Exit.then])
              exact ⟨rfl, hfin⟩
      · have he : a2 = l.length := by have := HK.out.rd.le; omega
        subst he
        have HBY := Aside0.mk HK.out.rd.byte_end
        have hres : r = ([], l.length, 5) := by
          have := HT.out
          rw [tb, if_pos (by rw [HM.out]; exact HLT.out), if_neg (by omega)] at this
          exact this.symm
        have HRES := Aside0.mk hres
        clear hres hend
        go_wp2_with fail
        refine HBY.out.mono ?_
        rintro e w2 ⟨rfl, hrd, hkp⟩
        have hfin : Took w0 W g A c l r (.panicked [ends g 5]) w2 := by rw [HRES.out]; exact .inr ⟨by show (5 : Int) ≠ 0; decide, rfl, hrd, (HK.out.step HG.out hrd hkp).kp⟩
        (try simp only [Exit.inBlock, Exit.then])
        exact ⟨rfl, hfin⟩
    · have u1 : decide ((m : Int) < (n : Int)) = false := decide_eq_false (by omega)
      have u2 : decide (m < n) = false := decide_eq_false hlt
      have hres : r = (xs, a2, 0) := by
        have := HT.out
        rw [tb, if_neg (by rw [HM.out]; exact hlt)] at this
        exact this.symm
      subst hres
      clear hlt hm
      go_wp2
      go_ret
      refine .inl ⟨rfl, _, rfl, ?_⟩
      exact HK.out
end Go.Proofs.YtmoopdhnnpjcfaaDoor.Co
/-! Column: Take, of one kind; Read. -/
namespace Go.Proofs.YtmoopdhnnpjcfaaDoor.Co
open Go.RowKit Go.Proofs.YtmoopdhnnpjcfaaDoorW.PrintWords Go.Proofs.YtmoopdhnnpjcfaaDoorW.PrintLast Go.Proofs.YtmoopdhnnpjcfaaDoorW.PrintMore Go.Proofs.YtmoopdhnnpjcfaaDoor.Wire Go.Proofs.YtmoopdhnnpjcfaaDoor.PCo Go.Proofs.YtmoopdhnnpjcfaaDoor.CoG Go.Proofs.YtmoopdhnnpjcfaaDoor.Rd
set_option linter.unusedVariables false
set_option linter.unusedSimpArgs false
set_option maxRecDepth 100000
theorem Took.lift {w0 W W1 w' : World} {g : Nat} {A : Option Addr} {c : Nat} {l : List Int} {r : List S47 × Nat × Int} {e : Ending} (hk : Kp (fun k => k = g) W W1) (h : Took w0 W1 g A c l r e w') : Took w0 W g A c l r e w' := by
  rcases h with ⟨h0, v, rfl, ht⟩ | ⟨h0, rfl, hrd, hkp⟩
  · exact .inl ⟨h0, v, rfl, ht.rd, hk.trans ht.kp, Kd.R_mono ht.row (fun k h => Nat.le_trans hk.size h)⟩
  · exact .inr ⟨h0, rfl, hrd, hk.trans hkp⟩
theorem kinds_field1 (a b : Nat) (w : World) : Sem.run Tryd.prog (Instr.field 107 (.agg #[fnv a, fnv b]) 1) w = .ok (fnv b) w := by kernel_rfl
set_option maxHeartbeats 4000000 in
theorem take_2 {w0 W : World} {g : Nat} {A : Option Addr} {c : Nat} {l : List Int} {a : Nat} (h : Rd w0 W g A c l a) (n : Nat) (hn : n ≤ 1024) {r : List S47 × Nat × Int}
    (hT : ∀ W1, Rd w0 W1 g A c l a → Calls Tryd.prog 117 #[.pointer (some ⟨g, 0, none⟩), .int .i64 (n : Int)] W1 (Took w0 W1 g A c l r)) :
    Calls Tryd.prog 29 #[.pointer (some ⟨g, 0, none⟩), .int .i64 2, .int .i64 (n : Int)] W (Took w0 W g A c l r) := by
  have H := Aside0.mk h
  have HT := Aside0.mk hT
  have t1 : decide ((n : Int) ≥ 0) = true := decide_eq_true (by omega)
  have t2 : decide ((0 : Int) ≤ (n : Int)) = true := decide_eq_true (by omega)
  have t3 : decide ((n : Int) ≤ 1024) = true := decide_eq_true (by omega)
  have t4 : decide (n ≤ 1024) = true := decide_eq_true hn
  clear h hT
  go_enter Tryd.func29, Tryd.ntmps29
  go_wp2_with fail
  refine (kindly_calls 2 _).mono ?_
  rintro e w1 ⟨rfl, b1⟩
  have H1 := Aside0.mk (H.out.below b1)
  have K1 := Aside0.mk (Kp.of_below b1 (fun k => k = g))
  rw [show decide ((0 : Int) ≤ 2 ∧ (2 : Int) ≤ 5) = true from rfl]
  have HM := Aside0.mk (H1.out.must_step true 10 (.inl rfl))
  clear b1
  go_wp2_with fail
  refine HM.out.mono ?_
  rintro e w2 ⟨rfl, hrd, hkp⟩
  have H2 := Aside0.mk hrd
  have K2 := Aside0.mk (K1.out.trans hkp)
  have HM2 := Aside0.mk (hrd.must_step true 3 (.inl rfl))
  clear hrd hkp HM H1 K1
  go_wp2_with fail
  refine HM2.out.mono ?_
  rintro e w3 ⟨rfl, hrd, hkp⟩
  have H3 := Aside0.mk hrd
  have K3 := Aside0.mk (K2.out.trans hkp)
  clear hrd hkp HM2 H2 K2
  go_wp2_with fail
  refine (kinds_calls _).mono ?_
  rintro e w4 ⟨rfl, b4⟩
  have H4 := Aside0.mk (H3.out.below b4)
  have K4 := Aside0.mk (K3.out.below b4)
  have HC := Aside0.mk (HT.out w4 H4.out)
  clear b4 H3 K3
  go_wp2_with fail
  rw [kinds_at2]
  go_wp2_with fail
  rw [kinds_field1]
  unfold fnv
  go_wp2_with fail
  refine HC.out.mono ?_
  rintro e w5 h5
  have h6 := h5.lift K4.out
  rcases h6 with ⟨h0, v, rfl, ht⟩ | ⟨h0, rfl, hrd, hkp⟩
  · clear h5
    go_wp2
    go_ret
    exact .inl ⟨h0, v, rfl, ht⟩
  · have hfin : Took w0 W g A c l r (.panicked [ends g r.2.2]) w5 := .inr ⟨h0, rfl, hrd, hkp⟩
    (try simp only [Exit.inBlock, Exit.then])
    exact ⟨rfl, hfin⟩
end Go.Proofs.YtmoopdhnnpjcfaaDoor.Co
/-! Column: Read, of what Take takes. -/
namespace Go.Proofs.YtmoopdhnnpjcfaaDoor.Co
open Go.RowKit Go.Proofs.YtmoopdhnnpjcfaaDoorW.PrintWords Go.Proofs.YtmoopdhnnpjcfaaDoorW.PrintLast Go.Proofs.YtmoopdhnnpjcfaaDoorW.PrintMore Go.Proofs.YtmoopdhnnpjcfaaDoor.Wire Go.Proofs.YtmoopdhnnpjcfaaDoor.PCo Go.Proofs.YtmoopdhnnpjcfaaDoor.CoG Go.Proofs.YtmoopdhnnpjcfaaDoor.Rd
set_option linter.unusedVariables false
set_option linter.unusedSimpArgs false
set_option maxRecDepth 100000
theorem hmf : ∀ (fn : Fn) (first cap : Array Value) (w : World), (Instr.makeFunc fn first cap).run Tryd.prog w = .ok (.func fn first cap) w := fun _ _ _ _ => rfl
set_option maxHeartbeats 4000000 in
theorem read_closure {w0 W1 : World} {g bk bn bl : Nat} {A : Option Addr} {c : Nat} {l : List Int} (h : Rd w0 W1 g A c l 0) (k n : Int) {r : List S47 × Nat × Int} (hr : r.2.1 ≤ l.length)
    (hbk : W1.heap[bk]? = some (.cells #[.int .i64 k] 3 (0, 0))) (hbn : W1.heap[bn]? = some (.cells #[.int .i64 n] 3 (0, 0))) (hbl : W1.heap[bl]? = some (.cells #[.slice none 0 0] 22 (0, 0))) (hne : bl ≠ g)
    (hT : Calls Tryd.prog 29 #[.pointer (some ⟨g, 0, none⟩), .int .i64 k, .int .i64 n] W1 (Took w0 W1 g A c l r)) :
    Calls Tryd.prog 70 (#[.pointer (some ⟨g, 0, none⟩)] ++ #[.pointer (some ⟨bk, 0, none⟩), .pointer (some ⟨bn, 0, none⟩), .pointer (some ⟨bl, 0, none⟩)]) W1
      (Left_ (fun j => j = bl) g A l.length c W1 (fun a w' => r.2.2 = 0 ∧ a = r.2.1 ∧ ∃ v, w'.heap[bl]? = some (.cells #[v] 22 (0, 0)) ∧ Kd.R k47 47 w' w0.heap.size (fun k => W1.heap.size ≤ k) v r.1) (fun a er w' => r.2.2 ≠ 0 ∧ a = r.2.1 ∧ er = r.2.2)) := by
  have H := Aside0.mk h
  have HT := Aside0.mk hT
  have HBL := Aside0.mk hbl
  have HNE := Aside0.mk hne
  have HR := Aside0.mk hr
  have c1 : W1.cell? ⟨bk, 0, none⟩ = some (.int .i64 k) := (blk_cell hbk 0).trans rfl
  have c2 : W1.cell? ⟨bn, 0, none⟩ = some (.int .i64 n) := (blk_cell hbn 0).trans rfl
  clear h hT hbk hbn hbl hne hr
  go_enter Tryd.func70, Tryd.ntmps70
  go_wp2_with fail
  refine HT.out.mono ?_
  rintro e w2 (⟨h0, v, rfl, ht⟩ | ⟨h0, rfl, hrd, hkp⟩)
  · obtain ⟨B, d, hv⟩ := Kd.R_slice ht.row
    subst hv
    have hb2 := ht.kp.blk HBL.out HNE.out
    have c3 : w2.cell? ⟨bl, 0, none⟩ = some (.slice none 0 0) := (blk_cell hb2 0).trans rfl
    have c4 : w2.frozen? ⟨bl, 0, none⟩ = false := by simp [World.frozen?, hb2]
    have HF := Aside0.mk (show Left_ (fun j => j = bl) g A l.length c W1 (fun a w' => r.2.2 = 0 ∧ a = r.2.1 ∧ ∃ v, w'.heap[bl]? = some (.cells #[v] 22 (0, 0)) ∧ Kd.R k47 47 w' w0.heap.size (fun k => W1.heap.size ≤ k) v r.1) (fun a er w' => r.2.2 ≠ 0 ∧ a = r.2.1 ∧ er = r.2.2) (.returned (.tuple #[])) (w2.setCell ⟨bl, 0, none⟩ (.slice B r.1.length d)) from by
      have hk2 : Kp (fun j => j = bl) w2 (w2.setCell ⟨bl, 0, none⟩ (.slice B r.1.length d)) := Kp.setCell (S := fun j => j = bl) (Kp.refl _ w2) (p := ⟨bl, 0, none⟩) (.inl rfl) _
      refine ⟨(ht.kp.mono (fun k hk => .inl hk)).trans (hk2.mono (fun k hk => .inr hk)), .inl ⟨rfl, r.2.1, ht.rd.at_.keep hk2 (fun z => HNE.out z.symm), HR.out, h0, rfl, .slice B r.1.length d, ?_, ?_⟩⟩
      · exact blk_put hb2 0 _ rfl
      · exact Kd.R_set ht.row hb2 (by decide) 0 _)
    clear hb2 HT HBL H h0 ht
    go_wp2
    exact ⟨rfl, .tuple #[], by simp [results, Tryd.results70, go_sem], HF.out⟩
  · have hfin : Left_ (fun j => j = bl) g A l.length c W1 (fun a w' => r.2.2 = 0 ∧ a = r.2.1 ∧ ∃ v, w'.heap[bl]? = some (.cells #[v] 22 (0, 0)) ∧ Kd.R k47 47 w' w0.heap.size (fun k => W1.heap.size ≤ k) v r.1) (fun a er w' => r.2.2 ≠ 0 ∧ a = r.2.1 ∧ er = r.2.2) (.panicked [ends g r.2.2]) w2 :=
      ⟨hkp.mono (fun k hk => .inl hk), .inr ⟨r.2.1, r.2.2, rfl, hrd.at_, HR.out, h0, rfl, rfl⟩⟩
    (try simp only [Exit.inBlock, Exit.then])
    exact ⟨rfl, hfin⟩
theorem boxes3 {w w1 : World} {t1 t2 t3 : TypeId} {u1 u2 u3 : Value} (b1 : Below (((w.alloc (.cells #[u1] t1)).alloc (.cells #[u2] t2)).alloc (.cells #[u3] t3)).heap.size (((w.alloc (.cells #[u1] t1)).alloc (.cells #[u2] t2)).alloc (.cells #[u3] t3)) w1) :
    w1.heap[w.heap.size]? = some (.cells #[u1] t1 (0, 0)) ∧ w1.heap[w.heap.size + 1]? = some (.cells #[u2] t2 (0, 0)) ∧ w1.heap[w.heap.size + 2]? = some (.cells #[u3] t3 (0, 0)) ∧ Below w.heap.size w w1 := by
  have h2 : ((w.alloc (.cells #[u1] t1)).alloc (.cells #[u2] t2)).heap[w.heap.size + 1]? = some (.cells #[u2] t2 (0, 0)) := by
    have := heap_alloc_new (w.alloc (.cells #[u1] t1)) (.cells #[u2] t2)
    simpa using this
  have h3 : (((w.alloc (.cells #[u1] t1)).alloc (.cells #[u2] t2)).alloc (.cells #[u3] t3)).heap[w.heap.size + 2]? = some (.cells #[u3] t3 (0, 0)) := by
    have := heap_alloc_new ((w.alloc (.cells #[u1] t1)).alloc (.cells #[u2] t2)) (.cells #[u3] t3)
    simpa [Nat.add_assoc] using this
  exact ⟨blk_below (blk_alloc (blk_alloc (heap_alloc_new w _) _) _) b1, blk_below (blk_alloc h2 _) b1, blk_below h3 b1, below_step (below_alloc (below_alloc (below_alloc (Below.refl w.heap.size w) _) _) _) b1⟩
/-- What Read answers, of what Take does. -/
def rdErr (l : List Int) (r : List S47 × Nat × Int) : Int := if r.2.2 = 0 then (if r.2.1 < l.length then 7 else 0) else r.2.2
def rdCells (l : List Int) (r : List S47 × Nat × Int) : List S47 := if rdErr l r = 0 then r.1 else []
set_option maxHeartbeats 4000000 in
theorem read_calls {A : Option Addr} {c : Nat} {l : List Int} (k n : Int) {r : List S47 × Nat × Int} (w : World) (hr : (Kd.int .u8).C w A l.length l) (hc : l.length ≤ c) (hb : Bytes l) (hl : l.length ≤ 140737488351232) (hle : r.2.1 ≤ l.length)
    (hT : ∀ g W1, Rd w W1 g A c l 0 → Calls Tryd.prog 29 #[.pointer (some ⟨g, 0, none⟩), .int .i64 k, .int .i64 n] W1 (Took w W1 g A c l r)) :
    Calls Tryd.prog 24 #[.slice A l.length c, .int .i64 k, .int .i64 n] w fun e w' => ∃ v, e = .returned (.tuple #[v, .int .i64 (r.2.1 : Int), .int .i64 (rdErr l r)]) ∧ Kd.R k47 47 w' w.heap.size (fun _ => True) v (rdCells l r) ∧ Below w.heap.size w w' := by
  have hcf : ∀ args w, (callFunc 70 args).run Tryd.prog w = .ok (.enter 70 args) w := fun _ _ => by kernel_rfl
  have HRun := Aside0.mk (fun (W : World) (x1 : W.heap[w.heap.size]? = some (.cells #[.int .i64 k] 3 (0, 0))) (x2 : W.heap[w.heap.size + 1]? = some (.cells #[.int .i64 n] 3 (0, 0))) (x3 : W.heap[w.heap.size + 2]? = some (.cells #[.slice none 0 0] 22 (0, 0))) (hW : Below w.heap.size w W) =>
    run_rd (w0 := w) (W := W) (A := A) (c := c) (l := l) (fn := 70) (caps := #[.pointer (some ⟨w.heap.size, 0, none⟩), .pointer (some ⟨w.heap.size + 1, 0, none⟩), .pointer (some ⟨w.heap.size + 2, 0, none⟩)]) (fun j => j = w.heap.size + 2)
      (fun g h1 a w' => r.2.2 = 0 ∧ a = r.2.1 ∧ ∃ v, w'.heap[w.heap.size + 2]? = some (.cells #[v] 22 (0, 0)) ∧ Kd.R k47 47 w' w.heap.size (fun k => h1 ≤ k) v r.1)
      (fun g h1 a er w' => r.2.2 ≠ 0 ∧ a = r.2.1 ∧ er = r.2.2)
      hW hr hc hb hl (by rintro k rfl; exact blk_lt x3) hcf
      (fun g W1 hrd hbw h1 h2 => read_closure hrd k n hle (blk_below x1 hbw) (blk_below x2 hbw) (blk_below x3 hbw) (by have := blk_lt x3; omega) (hT g W1 hrd)))
  have HLE := Aside0.mk hle
  clear hr hc hb hl hT hle hcf
  go_enter Tryd.func24, Tryd.ntmps24
  go_wp2_with (rw [hmf])
  obtain ⟨x1, x2, x3, x4⟩ := boxes3 (Below.refl _ (((w.alloc (.cells #[.int .i64 k] 3)).alloc (.cells #[.int .i64 n] 3)).alloc (.cells #[.slice none 0 0] 22)))
  refine (HRun.out _ x1 x2 x3 x4).mono ?_
  rintro e w2 ⟨g, h1, a, er, w3, rfl, hg1, hg2, hg3, hkA, hkB, hat, ha, hcase⟩
  have HBL := Aside0.mk (hkA.to_below x4 (by rintro k rfl; omega))
  have hn2 : ¬ ((((w.alloc (.cells #[.int .i64 k] 3)).alloc (.cells #[.int .i64 n] 3)).alloc (.cells #[.slice none 0 0] 22)).heap.size ≤ w.heap.size + 2 ∧ w.heap.size + 2 < h1) := by
    have := blk_lt x3
    omega
  rcases hcase with ⟨⟨h0, rfl, v, hv, hR⟩, rfl⟩ | ⟨h0, rfl, rfl⟩
  · obtain ⟨B, d, hv'⟩ := Kd.R_slice hR
    subst hv'
    have c9 : w2.cell? ⟨w.heap.size + 2, 0, none⟩ = some (.slice B r.1.length d) := (blk_cell (hkB.blk hv hn2) 0).trans rfl
    have HR2 := Aside0.mk (Kd.R_mono (ok' := fun _ => True) (Kd.R_kept hR hkB.kept (fun k hk z => by omega)) (fun _ _ => trivial))
    by_cases hlt : r.2.1 < l.length
    · have hE : rdErr l r = 7 := by rw [rdErr, if_pos h0, if_pos hlt]
      have HC := Aside0.mk (show rdCells l r = [] from by rw [rdCells, hE]; rfl)
      rw [if_pos hlt]
      have HE := Aside0.mk hE
      clear x1 x2 x3 x4 hkA hkB hat ha hv hR h0 hlt hE hn2 hg1 hg2 hg3
      go_wp2
      go_ret3
      exact ⟨.slice none 0 0, by rw [HE.out]; rfl, by rw [HC.out]; exact Kd.R_nil _ _ _ _ _, HBL.out⟩
    · have hE : rdErr l r = 0 := by rw [rdErr, if_pos h0, if_neg hlt]
      have HC := Aside0.mk (show rdCells l r = r.1 from by rw [rdCells, hE, if_pos rfl])
      rw [if_neg hlt]
      have HE := Aside0.mk hE
      clear x1 x2 x3 x4 hkA hkB hat ha hv hR h0 hlt hE hn2 hg1 hg2 hg3
      go_wp2
      go_ret3
      exact ⟨_, by rw [HE.out]; rfl, by rw [HC.out]; exact HR2.out, HBL.out⟩
  · have hE : rdErr l r = r.2.2 := by rw [rdErr, if_neg h0]
    have HC := Aside0.mk (show rdCells l r = [] from by rw [rdCells, hE, if_neg h0])
    obtain ⟨E, hEE⟩ : ∃ E, r.2.2 = E := ⟨_, rfl⟩
    rw [hEE] at h0 hE ⊢
    have HE := Aside0.mk hE
    have v1 : (E != 0) = true := bne_iff_ne.mpr h0
    clear x1 x2 x3 x4 hkA hkB hat ha h0 hE hn2 hg1 hg2 hg3 hEE
    go_wp2
    go_ret3
    exact ⟨.slice none 0 0, by rw [HE.out]; rfl, by rw [HC.out]; exact Kd.R_nil _ _ _ _ _, HBL.out⟩
end Go.Proofs.YtmoopdhnnpjcfaaDoor.Co
/-! Column: the document's examples. -/
namespace Go.Proofs.YtmoopdhnnpjcfaaDoor.Co
open Go.RowKit Go.Proofs.YtmoopdhnnpjcfaaDoorW.PrintWords Go.Proofs.YtmoopdhnnpjcfaaDoorW.PrintLast Go.Proofs.YtmoopdhnnpjcfaaDoorW.PrintMore Go.Proofs.YtmoopdhnnpjcfaaDoor.Wire Go.Proofs.YtmoopdhnnpjcfaaDoor.PCo Go.Proofs.YtmoopdhnnpjcfaaDoor.CoG Go.Proofs.YtmoopdhnnpjcfaaDoor.Rd
set_option linter.unusedVariables false
set_option linter.unusedSimpArgs false
set_option maxRecDepth 100000
/-- Cells of a literal. -/
theorem cells_row (W : World) (xs : List S47) (inner : List Value) (hrep : ∀ w', Reps (k47.M w' W.heap.size (fun _ => False)) 2 xs inner) (hm : xs.length ≤ 9223372036854775807) :
    Kd.C k47 (W.alloc (.cells inner.toArray 47)) (some ⟨W.heap.size, 0, none⟩) xs.length xs := by
  have h2 := World.ownsRow_lit (base := W.heap.size) (e := 47) (size := 2) W inner.toArray xs.length (Nat.le_refl _) (by simpa [maxLen] using hm) (by simpa using (hrep W).1)
  have hR : Kd.R k47 47 (W.alloc (.cells inner.toArray 47)) W.heap.size (fun _ => True) (.slice (some ⟨W.heap.size, 0, none⟩) xs.length xs.length) xs :=
    ⟨fun _ _ => trivial, inner, by simp only [List.size_toArray] at h2; exact (by simpa using h2 : (W.alloc (.cells inner.toArray 47)).ownsRow W.heap.size 47 2 (.slice (some ⟨W.heap.size, 0, none⟩) xs.length xs.length) xs.length inner), (hrep _).imp_ (fun p c hp => k47.M_mono (fun _ h => h.elim) hp)⟩
  obtain ⟨A, c, he, hl, hr⟩ := Kd.R_reads hR
  cases he
  exact hr
theorem small_of {l : List S47} (h : l.length ≤ 1048576) (ht : ∀ x ∈ l, x.f1.size ≤ 1048576) : Small l := by
  refine ⟨h, fun i => ?_⟩
  unfold tx rd_T47
  rw [Int.toNat_natCast, List.getD_eq_getElem?_getD]
  cases e : l[i]? with
  | none => exact Nat.zero_le _
  | some x => exact ht x (List.mem_of_getElem? e)
theorem dlt_at {a b : Int} {x : Nat} (h : (zigS (wrap64 (IntKind.u64.wrap (b - a)))).toNat = x) (hx : x < 128) : dlt a b = [(x : Int)] := by rw [dlt, h, uv_small hx]
abbrev e0 : ByteArray := ⟨#[]⟩
def L1 : List S47 := [⟨5, e0⟩, ⟨7, e0⟩, ⟨4, e0⟩]
def L2 : List S47 := [⟨0, ⟨#[97, 98]⟩⟩, ⟨0, ⟨#[97, 98, 99]⟩⟩, ⟨0, ⟨#[98]⟩⟩]
theorem L1_bytes : wBytes 0 L1 = [10, 4, 5] ∧ wErr 0 L1 = 0 := by
  have h : wErr 0 L1 = 0 := by decide +kernel
  refine ⟨?_, h⟩
  rw [wBytes, if_pos h, show wrote 0 L1 = (([] ++ dlt 0 5) ++ dlt 5 7) ++ dlt 7 4 from rfl, dlt_at (x := 10) (by decide +kernel) (by decide), dlt_at (x := 4) (by decide +kernel) (by decide), dlt_at (x := 5) (by decide +kernel) (by decide)]
  rfl
theorem L2_bytes : wBytes 4 L2 = [0, 2, 97, 98, 2, 1, 99, 0, 1, 98] ∧ wErr 4 L2 = 0 := by
  have h : wErr 4 L2 = 0 := by decide +kernel
  refine ⟨?_, h⟩
  rw [wBytes, if_pos h, show wrote 4 L2 = (([] ++ (uv 0 ++ (uv 2 ++ [97, 98]))) ++ (uv 2 ++ (uv 1 ++ [99]))) ++ (uv 0 ++ (uv 1 ++ [98])) from by rfl, uv_small (x := 0) (by decide), uv_small (x := 1) (by decide), uv_small (x := 2) (by decide)]
  rfl
def R3 : List S47 × Nat × Int := ([⟨1, e0⟩, ⟨0, e0⟩, ⟨1, e0⟩], 1, 0)
theorem tb_3 : tb [5] 3 4 0 [] = R3 := by rfl
theorem nm_ok {x : S47} {l : List S47} (h : 0 ≤ x.f0 ∧ x.f0 < 18446744073709551616) : 0 ≤ nm (x :: l) 0 ∧ nm (x :: l) 0 < 18446744073709551616 := h
theorem L1_calls (w : World) (hU : UtfW w) : Calls Tryd.prog 22 #[.int .i64 0, .slice (some ⟨w.heap.size, 0, none⟩) 3 3] (w.alloc (.cells #[.int .u64 5, .string e0, .int .u64 7, .string e0, .int .u64 4, .string e0] 47)) fun e w' => ∃ v, e = .returned (.tuple #[v, .int .i64 0]) ∧ Kd.R (Kd.int .u8) 5 w' w.heap.size (fun _ => True) v [10, 4, 5] ∧ Below w.heap.size w w' := by
  have hrow := cells_row w L1 [.int .u64 5, .string e0, .int .u64 7, .string e0, .int .u64 4, .string e0] (fun w' => Reps.c2 (k47_mkM _ _ _ _) (Reps.c2 (k47_mkM _ _ _ _) (Reps.c2 (k47_mkM _ _ _ _) (Reps.none _ _)))) (by decide)
  have hb := below_alloc (Below.refl w.heap.size w) (.cells #[.int .u64 5, .string e0, .int .u64 7, .string e0, .int .u64 4, .string e0] 47)
  refine (write_calls 0 (A := some ⟨w.heap.size, 0, none⟩) (c := 3) (l := L1) _ hrow (by decide) (small_of (by decide) (fun x hx => by simp [L1] at hx; rcases hx with rfl | rfl | rfl <;> decide)) (nm_ok ⟨by decide, by decide⟩) (hU.below hb)).mono ?_
  rintro e w' ⟨v, rfl, hv, b⟩
  rw [L1_bytes.1] at hv
  exact ⟨v, by rw [L1_bytes.2], Kd.R_lower hv (by simp), below_step hb b⟩
theorem L2_calls (w : World) (hU : UtfW w) : Calls Tryd.prog 22 #[.int .i64 4, .slice (some ⟨w.heap.size, 0, none⟩) 3 3] (w.alloc (.cells #[.int .u64 0, .string ⟨#[97, 98]⟩, .int .u64 0, .string ⟨#[97, 98, 99]⟩, .int .u64 0, .string ⟨#[98]⟩] 47)) fun e w' => ∃ v, e = .returned (.tuple #[v, .int .i64 0]) ∧ Kd.R (Kd.int .u8) 5 w' w.heap.size (fun _ => True) v [0, 2, 97, 98, 2, 1, 99, 0, 1, 98] ∧ Below w.heap.size w w' := by
  have hrow := cells_row w L2 [.int .u64 0, .string ⟨#[97, 98]⟩, .int .u64 0, .string ⟨#[97, 98, 99]⟩, .int .u64 0, .string ⟨#[98]⟩] (fun w' => Reps.c2 (k47_mkM _ _ _ _) (Reps.c2 (k47_mkM _ _ _ _) (Reps.c2 (k47_mkM _ _ _ _) (Reps.none _ _)))) (by decide)
  have hb := below_alloc (Below.refl w.heap.size w) (.cells #[.int .u64 0, .string ⟨#[97, 98]⟩, .int .u64 0, .string ⟨#[97, 98, 99]⟩, .int .u64 0, .string ⟨#[98]⟩] 47)
  refine (write_calls 4 (A := some ⟨w.heap.size, 0, none⟩) (c := 3) (l := L2) _ hrow (by decide) (small_of (by decide) (fun x hx => by simp [L2] at hx; rcases hx with rfl | rfl | rfl <;> decide)) (nm_ok ⟨by decide, by decide⟩) (hU.below hb)).mono ?_
  rintro e w' ⟨v, rfl, hv, b⟩
  rw [L2_bytes.1] at hv
  exact ⟨v, by rw [L2_bytes.2], Kd.R_lower hv (by simp), below_step hb b⟩
theorem lit_row (W : World) (xs : List Int) (fr : Nat × Nat) (hx : xs.length ≤ 9223372036854775807) : Kd.C (Kd.int .u8) (W.alloc (.cells (xs.map (Value.int .u8)).toArray 5 fr)) (some ⟨W.heap.size, 0, none⟩) xs.length xs := by
  refine Kd.C_of_reads (d := (0 : Int)) (h1 := fun _ => rfl) ⟨rfl, hx, fun _ => ⟨_, rfl, fun j hj => ?_⟩⟩
  rw [add_plain, cell_of_row _ _ _ _ _ _ (heap_alloc_new W _)]
  simp [List.getElem?_eq_getElem hj, List.getD_eq_getElem?_getD]
theorem L3_calls (w : World) : Calls Tryd.prog 24 #[.slice (some ⟨w.heap.size, 0, none⟩) 1 1, .int .i64 2, .int .i64 3] (w.alloc (.cells #[.int .u8 5] 5)) fun e w' => ∃ v, e = .returned (.tuple #[v, .int .i64 1, .int .i64 0]) ∧ Kd.R k47 47 w' w.heap.size (fun _ => True) v [⟨1, e0⟩, ⟨0, e0⟩, ⟨1, e0⟩] ∧ Below w.heap.size w w' := by
  have hrow := lit_row w [5] (0, 0) (by decide)
  have hb := below_alloc (Below.refl w.heap.size w) (.cells #[.int .u8 5] 5)
  refine (read_calls (A := some ⟨w.heap.size, 0, none⟩) (c := 1) (l := [5]) 2 3 (r := R3) _ hrow (by decide) (fun x hx => by simp at hx; omega) (by decide) (by decide) (fun g W1 hrd => take_2 hrd 3 (by decide) (fun W1 h => by have := takeBools_calls h 3 (by decide); rw [tb_3] at this; exact this))).mono ?_
  rintro e w' ⟨v, rfl, hv, b⟩
  exact ⟨v, rfl, Kd.R_lower hv (by simp), below_step hb b⟩
set_option maxHeartbeats 8000000 in
theorem alive_calls (w : World) (hU : UtfW w) : Calls Tryd.prog 20 #[] w fun e w' => e = .returned (.bool true) ∧ Below w.heap.size w w' := by
  have HU := Aside0.mk hU
  have HI := Aside0.mk (fun (x : Int) (W : World) (r : Int) (h : cell_Int.f x = some (r, e0)) => cell_Int.calls x r e0 W h)
  clear hU
  go_enter Tryd.func20, Tryd.ntmps20
  go_wp2_with fail
  refine (HI.out 5 _ 5 rfl).mono ?_
  rintro e w1 ⟨rfl, b1⟩
  have B1 := Aside0.mk b1
  clear b1
  go_wp2_with fail
  refine (HI.out 7 _ 7 rfl).mono ?_
  rintro e w2 ⟨rfl, b2⟩
  have B2 := Aside0.mk (below_step B1.out b2)
  clear b2
  go_wp2_with fail
  refine (HI.out 4 _ 4 rfl).mono ?_
  rintro e w3 ⟨rfl, b3⟩
  have B3 := Aside0.mk (below_step B2.out b3)
  have U3 := Aside0.mk (HU.out.below B3.out)
  clear b3 B1 B2
  go_wp2_with fail
  refine (L1_calls w3 U3.out).mono ?_
  rintro e w4 ⟨v4, rfl, hv4, b4⟩
  have B4 := Aside0.mk (below_step B3.out b4)
  have U4 := Aside0.mk (HU.out.below B4.out)
  have V4 := Aside0.mk hv4
  clear b4 B3 U3 hv4
  obtain ⟨A4, c4, rfl⟩ := Kd.R_slice V4.out
  go_wp2_with fail
  refine (L2_calls w4 U4.out).mono ?_
  rintro e w5 ⟨v5, rfl, hv5, b5⟩
  have B5 := Aside0.mk (below_step B4.out b5)
  have V5 := Aside0.mk hv5
  have V45 := Aside0.mk (Kd.R_below V4.out b5)
  clear b5 B4 U4 hv5 V4
  obtain ⟨A5, c5, rfl⟩ := Kd.R_slice V5.out
  go_wp2_with fail
  refine (L3_calls w5).mono ?_
  rintro e w6 ⟨v6, rfl, hv6, b6⟩
  have B6 := Aside0.mk (below_step B5.out b6)
  have V6 := Aside0.mk hv6
  have V56 := Aside0.mk (Kd.R_below V5.out b6)
  have V46 := Aside0.mk (Kd.R_below V45.out b6)
  clear b6 B5 hv6 V45 V5
  obtain ⟨A6, c6, rfl⟩ := Kd.R_slice V6.out
  have hk1 : (convert 25 9 (.slice A4 3 c4)).run Tryd.prog w6 = .ok (.string (strOfNums [10, 4, 5])) w6 := Kd.C_string (P := Tryd.prog) (A := A4) (c := c4) Tryd.underlying25 Tryd.underlying5 Tryd.underlying9 (Kd.R_reads' V46.out).2.2
  have hk2 : (convert 25 9 (.slice A5 10 c5)).run Tryd.prog w6 = .ok (.string (strOfNums [0, 2, 97, 98, 2, 1, 99, 0, 1, 98])) w6 := Kd.C_string (P := Tryd.prog) (A := A5) (c := c5) Tryd.underlying25 Tryd.underlying5 Tryd.underlying9 (Kd.R_reads' V56.out).2.2
  rw [show strOfNums [10, 4, 5] = ⟨#[10, 4, 5]⟩ from rfl] at hk1
  rw [show strOfNums [0, 2, 97, 98, 2, 1, 99, 0, 1, 98] = ⟨#[0, 2, 97, 98, 2, 1, 99, 0, 1, 98]⟩ from rfl] at hk2
  obtain ⟨ad, e, h0, h1⟩ := at_T47 (Kd.R_reads' V6.out).2.2 0 (by decide) (by decide)
  cases e
  obtain ⟨ad1, e1, h2, h3⟩ := at_T47 (Kd.R_reads' V6.out).2.2 1 (by decide) (by decide)
  cases e1
  obtain ⟨ad2, e2, h4, h5⟩ := at_T47 (Kd.R_reads' V6.out).2.2 2 (by decide) (by decide)
  cases e2
  have g0 : w6.cell? ad = some (.int .u64 1) := h0
  have g1 : w6.cell? ⟨ad.block, ad.off + 2, none⟩ = some (.int .u64 0) := h2
  have g2 : w6.cell? ⟨ad.block, ad.off + 4, none⟩ = some (.int .u64 1) := h4
  clear h0 h1 h2 h3 h4 h5 V6
  go_wp2_with fail
  go_ret
  exact ⟨rfl, B6.out⟩
end Go.Proofs.YtmoopdhnnpjcfaaDoor.Co
