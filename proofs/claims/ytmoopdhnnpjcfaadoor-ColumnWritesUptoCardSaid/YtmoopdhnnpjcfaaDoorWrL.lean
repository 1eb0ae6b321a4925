import Derived.Test.YtmoopdhnnpjcfaaDoorWr0
import Derived.Test.YtmoopdhnnpjcfaaDoorWr2
import Derived.Test.YtmoopdhnnpjcfaaDoorWr4
import Derived.Test.YtmoopdhnnpjcfaaDoorWr5
/-! ColumnWrites: the call. -/
namespace Go.Proofs.YtmoopdhnnpjcfaaDoor.Co
open Go.RowKit Go.Proofs.YtmoopdhnnpjcfaaDoorW.PrintWords Go.Proofs.YtmoopdhnnpjcfaaDoorW.PrintLast Go.Proofs.YtmoopdhnnpjcfaaDoorW.PrintMore Go.Proofs.YtmoopdhnnpjcfaaDoor.Wire Go.Proofs.YtmoopdhnnpjcfaaDoor.PCo Go.Proofs.YtmoopdhnnpjcfaaDoor.CoG
set_option linter.unusedVariables false
set_option linter.unusedSimpArgs false
set_option maxRecDepth 100000
set_option maxHeartbeats 4000000 in
theorem rwrite_calls (k : Int) {A : Option Addr} {c : Nat} {l : List S47} (w : World) (hr : Kd.C k47 w A l.length l) (hlen : l.length ≤ 1048576) (htx : ∀ i, (tx l i).size ≤ 140737488351232) (hnum : ∀ i, 0 ≤ nm l i ∧ nm l i < 18446744073709551616) :
    Calls Tryd.prog 23 #[.int .i64 k, .slice A l.length c] w fun e w' => ∃ v, e = .returned (.tuple #[v, .int .i64 (wErr k l)]) ∧ Kd.R (Kd.int .u8) 5 w' w.heap.size (fun _ => True) v (wBytes k l) ∧ Below w.heap.size w w' := by
  by_cases hk : 0 ≤ k ∧ k ≤ 5
  · rcases (show k = 0 ∨ k = 1 ∨ k = 2 ∨ k = 3 ∨ k = 4 ∨ k = 5 by omega) with rfl | rfl | rfl | rfl | rfl | rfl
    · exact rwrite_0 w hr hlen htx hnum
    · exact rwrite_1 w hr hlen htx hnum
    · exact rwrite_2 w hr hlen htx hnum
    · exact rwrite_3 w hr hlen htx hnum
    · exact rwrite_4 w hr hlen htx hnum
    · exact rwrite_5 w hr hlen htx hnum
  · have hw : wErr k l = 10 := by rw [wErr, if_neg hk]
    have HW := Aside0.mk (show wBytes k l = [] from by rw [wBytes, hw]; rfl)
    rw [hw, HW.out]
    generalize l.length = n at *
    clear hw HW hr htx hnum hlen
    by_cases h0 : k < 0
    · have t1 : decide (k < 0) = true := decide_eq_true h0
      clear h0 hk
      go_enter Tryd.func23, Tryd.ntmps23
      go_wp2
      go_ret2
      exact ⟨_, rfl, Kd.R_nil _ _ _ _ _, Below.refl _ _⟩
    · have t1 : decide (k < 0) = false := decide_eq_false h0
      have t2 : decide (5 < k) = true := decide_eq_true (by omega)
      clear h0 hk
      go_enter Tryd.func23, Tryd.ntmps23
      go_wp2
      go_ret2
      exact ⟨_, rfl, Kd.R_nil _ _ _ _ _, Below.refl _ _⟩
theorem nm_all {l : List S47} (h : ∀ x ∈ l, 0 ≤ x.f0 ∧ x.f0 < 18446744073709551616) (i : Nat) : 0 ≤ nm l i ∧ nm l i < 18446744073709551616 := by
  unfold nm rd_T47
  rw [Int.toNat_natCast, List.getD_eq_getElem?_getD]
  cases e : l[i]? with
  | none => exact ⟨by decide, by decide⟩
  | some x => exact h x (List.mem_of_getElem? e)
theorem tx_all {l : List S47} {m : Nat} (h : ∀ x ∈ l, x.f1.size ≤ m) (i : Nat) : (tx l i).size ≤ m := by
  unfold tx rd_T47
  rw [Int.toNat_natCast, List.getD_eq_getElem?_getD]
  cases e : l[i]? with
  | none => exact Nat.zero_le _
  | some x => exact h x (List.mem_of_getElem? e)
set_option maxHeartbeats 4000000 in
theorem writes_calls (k : Int) {A : Option Addr} {c : Nat} {l : List S47} (w : World) (hU : UtfW w) (hr : Kd.C k47 w A l.length l) (hc : l.length ≤ c) (hs : Small l) (hnum : ∀ i, 0 ≤ nm l i ∧ nm l i < 18446744073709551616) :
    Calls Tryd.prog 3 #[.int .i64 k, .slice A l.length c] w fun e w' => e = .returned (.bool true) ∧ Below w.heap.size w w' := by
  have HU := Aside0.mk hU
  have HR := Aside0.mk hr
  have HG := Aside0.mk (fun (W : World) (hb : Below w.heap.size w W) => great_calls (c := c) W (Kd.C_below hr hb) (by have := hs.len; omega) (fun i => by have := hs.text i; omega))
  have HW := Aside0.mk (fun (W : World) (hb : Below w.heap.size w W) => write_calls k W (Kd.C_below hr hb) hc hs (hnum 0) (hU.below hb))
  have HV := Aside0.mk (fun (W : World) (hb : Below w.heap.size w W) => rwrite_calls k (c := c) W (Kd.C_below hr hb) hs.len (fun i => by have := hs.text i; omega) hnum)
  obtain ⟨X, hX⟩ : ∃ X, wBytes k l = X := ⟨_, rfl⟩
  obtain ⟨E, hE⟩ : ∃ E, wErr k l = E := ⟨_, rfl⟩
  rw [hX, hE] at HW HV
  obtain ⟨G, hG⟩ : ∃ G, gs l l.length = G := ⟨_, rfl⟩
  rw [hG] at HG
  obtain ⟨n, hn⟩ : ∃ n, l.length = n := ⟨_, rfl⟩
  rw [hn] at HG HW HV ⊢
  clear hX hE hG hn hU hr hs hnum hc
  by_cases hg : G > 5000
  · rw [decide_eq_true hg] at HG
    clear hg
    go_enter Tryd.func3, Tryd.ntmps3
    go_wp2_with fail
    refine (alive_calls _ HU.out).mono ?_
    rintro e w1 ⟨rfl, b1⟩
    have B1 := Aside0.mk b1
    clear b1
    go_wp2_with fail
    refine (HG.out _ B1.out).mono ?_
    rintro e w2 ⟨rfl, b2⟩
    have B2 := Aside0.mk (below_step B1.out b2)
    clear b2
    go_wp2_with fail
    refine (alive_calls _ (HU.out.below B2.out)).mono ?_
    rintro e w3 ⟨rfl, b3⟩
    have B3 := Aside0.mk (below_step B2.out b3)
    clear b3
    go_wp2
    go_ret
    exact ⟨rfl, B3.out⟩
  · rw [decide_eq_false hg] at HG
    clear hg
    go_enter Tryd.func3, Tryd.ntmps3
    go_wp2_with fail
    refine (alive_calls _ HU.out).mono ?_
    rintro e w1 ⟨rfl, b1⟩
    have B1 := Aside0.mk b1
    clear b1
    go_wp2_with fail
    refine (HG.out _ B1.out).mono ?_
    rintro e w2 ⟨rfl, b2⟩
    have B2 := Aside0.mk (below_step B1.out b2)
    clear b2
    go_wp2_with fail
    refine (HW.out _ B2.out).mono ?_
    rintro e w3 ⟨v3, rfl, hv3, b3⟩
    have B3 := Aside0.mk (below_step B2.out b3)
    have V3 := Aside0.mk hv3
    obtain ⟨A3, c3, rfl⟩ := Kd.R_slice hv3
    clear b3 hv3
    go_wp2_with fail
    refine (HV.out _ B3.out).mono ?_
    rintro e w4 ⟨v4, rfl, hv4, b4⟩
    have B4 := Aside0.mk (below_step B3.out b4)
    have V34 := Aside0.mk (Kd.R_below V3.out b4)
    have V4 := Aside0.mk hv4
    obtain ⟨A4, c4, rfl⟩ := Kd.R_slice hv4
    clear b4 hv4
    have hk3 := Kd.C_string (P := Tryd.prog) (A := A3) (c := c3) Tryd.underlying25 Tryd.underlying5 Tryd.underlying9 (Kd.R_reads' V34.out).2.2
    have hk4 := Kd.C_string (P := Tryd.prog) (A := A4) (c := c4) Tryd.underlying25 Tryd.underlying5 Tryd.underlying9 (Kd.R_reads' V4.out).2.2
    go_wp2_with fail
    go_ret
    exact ⟨rfl, B4.out⟩
end Go.Proofs.YtmoopdhnnpjcfaaDoor.Co
