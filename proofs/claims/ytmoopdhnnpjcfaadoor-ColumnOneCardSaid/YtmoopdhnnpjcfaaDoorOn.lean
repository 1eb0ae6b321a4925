import Derived.Test.YtmoopdhnnpjcfaaDoorTkO
import Derived.Test.YtmoopdhnnpjcfaaDoorCoL
/-! ColumnOne: the call. -/
namespace Go.Proofs.YtmoopdhnnpjcfaaDoor.Co
open Go.RowKit Go.Proofs.YtmoopdhnnpjcfaaDoorW.PrintWords Go.Proofs.YtmoopdhnnpjcfaaDoorW.PrintLast Go.Proofs.YtmoopdhnnpjcfaaDoorW.PrintMore Go.Proofs.YtmoopdhnnpjcfaaDoor.Wire Go.Proofs.YtmoopdhnnpjcfaaDoor.PCo Go.Proofs.YtmoopdhnnpjcfaaDoor.CoG Go.Proofs.YtmoopdhnnpjcfaaDoor.Rd
set_option linter.unusedVariables false
set_option linter.unusedSimpArgs false
set_option maxRecDepth 100000
theorem nm_first {l : List S47} (h : ∀ x ∈ l, 0 ≤ x.f0 ∧ x.f0 < 18446744073709551616) : 0 ≤ nm l 0 ∧ nm l 0 < 18446744073709551616 := by
  cases l with
  | nil => exact ⟨by decide, by decide⟩
  | cons x t => exact h x (List.mem_cons_self ..)
set_option maxHeartbeats 8000000 in
theorem one_calls (k n : Int) {A : Option Addr} {c : Nat} {l : List Int} (w : World) (hU : UtfW w) (hr : (Kd.int .u8).C w A l.length l) (hc : l.length ≤ c) (hb : Bytes l) (hl : l.length ≤ 140737488351232) :
    Calls Tryd.prog 5 #[.slice A l.length c, .int .i64 k, .int .i64 n] w fun e w' => e = .returned (.bool true) ∧ Below w.heap.size w w' := by
  have HU := Aside0.mk hU
  by_cases hbig : 3000 < l.length
  · obtain ⟨m, hm⟩ : ∃ m, l.length = m := ⟨_, rfl⟩
    rw [hm] at hbig ⊢
    have t1 : decide ((3000 : Int) < (m : Int)) = true := decide_eq_true (by omega)
    have t2 : decide (3000 < m) = true := decide_eq_true hbig
    clear hU hr hc hb hl hbig hm
    go_enter Tryd.func5, Tryd.ntmps5
    go_wp2_with fail
    refine (alive_calls _ HU.out).mono ?_
    rintro e w1 ⟨rfl, b1⟩
    have B1 := Aside0.mk b1
    clear b1
    go_wp2_with fail
    refine (alive_calls _ (HU.out.below B1.out)).mono ?_
    rintro e w2 ⟨rfl, b2⟩
    have B2 := Aside0.mk (below_step B1.out b2)
    clear b2
    go_wp2
    go_ret
    exact ⟨rfl, B2.out⟩
  have HR := Aside0.mk hr
  have HRD := Aside0.mk (fun (W : World) (hbl : Below w.heap.size w W) => cread_calls k n W (Kd.C_below hr hbl) hc hb hl (hU.below hbl))
  have hle := tk_le hb k n (Nat.zero_le _)
  have hone := fun cs a => tk_one (cs := cs) (a := a) hb k n
  obtain ⟨r, hrr⟩ : ∃ r, tk l k n 0 = r := ⟨_, rfl⟩
  rw [hrr] at HRD hle
  rw [hrr] at hone
  obtain ⟨cs, at_, er⟩ := r
  dsimp only at hle
  by_cases hE : rdErr l (cs, at_, er) = 0
  · have her : er = 0 := by
      unfold rdErr at hE
      dsimp only at hE
      by_cases e : er = 0
      · exact e
      · rw [if_neg e] at hE; exact hE
    subst her
    have hat : at_ = l.length := by
      unfold rdErr at hE
      dsimp only at hE
      rw [if_pos rfl] at hE
      by_cases e : at_ < l.length
      · rw [if_pos e] at hE; exact absurd hE (by decide)
      · omega
    subst hat
    have ho := hone cs l.length rfl
    have HRD2 : rdCells l (cs, l.length, 0) = cs := by unfold rdCells; rw [if_pos hE]
    rw [hE, HRD2] at HRD
    have hw0 : wErr k cs = 0 := by rw [wErr, if_pos ho.kind]; exact ho.fine
    have hwb : wBytes k cs = l := by rw [wBytes, if_pos hw0, ho.bytes, List.take_length]
    have hsm : Small cs := small_of (by have := ho.most; omega) (fun x hx => by have := ho.text x hx; omega)
    have HN0 := Aside0.mk (nm_first ho.num)
    have HSM := Aside0.mk hsm
    have HW0 := Aside0.mk hw0
    have HWB := Aside0.mk hwb
    have hcn := ho.len
    have hcm := ho.most
    obtain ⟨m, hm⟩ : ∃ m, l.length = m := ⟨_, rfl⟩
    have HM := Aside0.mk hm
    rw [hm] at hbig HRD ⊢
    have t1 : decide ((3000 : Int) < (m : Int)) = false := decide_eq_false (by omega)
    have t2 : decide (3000 < m) = false := decide_eq_false hbig
    obtain ⟨q, hq⟩ : ∃ q, cs.length = q := ⟨_, rfl⟩
    have HQ := Aside0.mk hq
    rw [hq] at hcn hcm
    subst hcn
    clear hU hr hc hb hl hbig hm hE HRD2 hle hone hrr ho hw0 hwb hsm hq
    go_enter Tryd.func5, Tryd.ntmps5
    go_wp2_with fail
    refine (alive_calls _ HU.out).mono ?_
    rintro e w1 ⟨rfl, b1⟩
    have B1 := Aside0.mk b1
    clear b1
    go_wp2_with fail
    refine (HRD.out _ B1.out).mono ?_
    rintro e w2 ⟨v2, rfl, hv2, b2⟩
    have B2 := Aside0.mk (below_step B1.out b2)
    obtain ⟨A2, c2, hc2, hl2, hr2⟩ := Kd.R_reads hv2
    subst hc2
    have HC2 := Aside0.mk hr2
    have HWR := Aside0.mk (write_calls k (l := cs) w2 hr2 hl2 HSM.out HN0.out (HU.out.below B2.out))
    rw [HW0.out, HWB.out, HQ.out] at HWR
    rw [HQ.out]
    clear b2 hv2 hl2 hr2 HRD
    go_wp2_with fail
    refine HWR.out.mono ?_
    rintro e w3 ⟨v3, rfl, hv3, b3⟩
    have B3 := Aside0.mk (below_step B2.out b3)
    obtain ⟨A3, c3, rfl⟩ := Kd.R_slice hv3
    have hk3 := Kd.C_string (P := Tryd.prog) (A := A3) (c := c3) Tryd.underlying25 Tryd.underlying5 Tryd.underlying9 (Kd.R_reads' hv3).2.2
    have hk4 := Kd.C_string (P := Tryd.prog) (A := A) (c := c) Tryd.underlying25 Tryd.underlying5 Tryd.underlying9 (Kd.C_below HR.out B3.out)
    rw [HM.out] at hk3 hk4 ⊢
    clear b3 hv3
    go_wp2_with fail
    go_ret
    exact ⟨rfl, B3.out⟩
  · have HRD2 : rdCells l (cs, at_, er) = [] := by unfold rdCells; rw [if_neg hE]
    rw [HRD2] at HRD
    obtain ⟨E, hEE⟩ : ∃ E, rdErr l (cs, at_, er) = E := ⟨_, rfl⟩
    rw [hEE] at HRD hE
    dsimp only at HRD
    obtain ⟨m, hm⟩ : ∃ m, l.length = m := ⟨_, rfl⟩
    rw [hm] at hbig HRD hle ⊢
    have t1 : decide ((3000 : Int) < (m : Int)) = false := decide_eq_false (by omega)
    have t2 : decide (3000 < m) = false := decide_eq_false hbig
    have v1 : (E != 0) = true := bne_iff_ne.mpr hE
    have v2 : decide ((at_ : Int) ≤ (m : Int)) = true := decide_eq_true (by omega)
    have v3 : decide (at_ ≤ m) = true := decide_eq_true hle
    have v4 : decide ((at_ : Int) ≥ 0) = true := decide_eq_true (by omega)
    have v5 : decide ((0 : Int) ≤ (at_ : Int)) = true := decide_eq_true (by omega)
    clear hU hr hc hb hl hbig hm hE HRD2 hle hone hrr hEE
    go_enter Tryd.func5, Tryd.ntmps5
    go_wp2_with fail
    refine (alive_calls _ HU.out).mono ?_
    rintro e w1 ⟨rfl, b1⟩
    have B1 := Aside0.mk b1
    clear b1
    go_wp2_with fail
    refine (HRD.out _ B1.out).mono ?_
    rintro e w2 ⟨v2, rfl, hv2, b2⟩
    have B2 := Aside0.mk (below_step B1.out b2)
    obtain ⟨A2, c2, rfl⟩ := Kd.R_slice hv2
    clear b2 hv2 HRD
    go_wp2_with fail
    go_ret
    exact ⟨rfl, B2.out⟩
end Go.Proofs.YtmoopdhnnpjcfaaDoor.Co
