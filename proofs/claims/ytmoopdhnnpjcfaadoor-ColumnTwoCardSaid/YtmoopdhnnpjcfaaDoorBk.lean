import Derived.Test.YtmoopdhnnpjcfaaDoorTkS
import Derived.Test.YtmoopdhnnpjcfaaDoorCoL
import Derived.Test.YtmoopdhnnpjcfaaDoorWrA
/-! ColumnBack: the call. -/
namespace Go.Proofs.YtmoopdhnnpjcfaaDoor.Bk
open Go.RowKit Go.Proofs.YtmoopdhnnpjcfaaDoorW.PrintWords Go.Proofs.YtmoopdhnnpjcfaaDoorW.PrintLast Go.Proofs.YtmoopdhnnpjcfaaDoorW.PrintMore Go.Proofs.YtmoopdhnnpjcfaaDoor.Wire Go.Proofs.YtmoopdhnnpjcfaaDoor.PCo Go.Proofs.YtmoopdhnnpjcfaaDoor.CoG Go.Proofs.YtmoopdhnnpjcfaaDoor.Rd Go.Proofs.YtmoopdhnnpjcfaaDoor.Co
set_option linter.unusedVariables false
set_option linter.unusedSimpArgs false
set_option maxRecDepth 100000
theorem cut_head {W : World} {A : Option Addr} {l : List Int} {c a : Nat} (hC : (Kd.int .u8).C W A l.length l) (hc : l.length ≤ c) (ha : a ≤ l.length) :
    (∀ w : World, (Instr.slice 25 (.slice A l.length c) none (some (.int .i64 (a : Int))) none).run Tryd.prog w = .ok (.slice A a c) w) ∧
      (∀ w : World, (Kd.int .u8).C w A l.length l → (Kd.int .u8).C w A (l.take a).length (l.take a)) ∧ (l.take a).length ≤ c := by
  obtain ⟨i0, hi0, _, hsz0, _⟩ := info_parts info8
  obtain ⟨h1, h2, h3⟩ := print_take_of (P := Tryd.prog) (Value.int .u8) 0 25 5 .i64 Tryd.underlying25 hi0 hsz0 A c l (a : Int) (by omega) (by omega) hc
  simp only [Int.toNat_natCast] at h1 h2 h3
  refine ⟨fun w => ?_, fun w hw => Kd.C_of_reads (h1 := fun _ => rfl) (h2 w (Kd.reads_of_C hw)), h3⟩
  rw [h1 w, List.length_take, Nat.min_eq_left ha]
/-- No bytes, as a row that is one's own. -/
theorem empty_own (W : World) (base : Nat) (hb : base ≤ W.heap.size) : Kd.R (Kd.int .u8) 5 (W.alloc (.cells #[] 5)) base (fun _ => True) (.slice (some ⟨W.heap.size, 0, none⟩) 0 0) [] := by
  have h2 := World.ownsRow_lit (base := base) (e := 5) (size := 1) W #[] 0 hb (by simp [maxLen]) (by simp)
  exact ⟨fun _ _ => trivial, [], (by simpa using h2 : (W.alloc (.cells #[] 5)).ownsRow base 5 1 (.slice (some ⟨W.heap.size, 0, none⟩) 0 0) 0 []), Reps.none _ _⟩
theorem nm_all {l : List S47} (h : ∀ x ∈ l, 0 ≤ x.f0 ∧ x.f0 < 18446744073709551616) (i : Nat) : 0 ≤ nm l i ∧ nm l i < 18446744073709551616 := by
  unfold nm rd_T47
  rw [Int.toNat_natCast, List.getD_eq_getElem?_getD]
  cases e : l[i]? with
  | none => exact ⟨by decide, by decide⟩
  | some x => exact h x (List.mem_of_getElem? e)
theorem tx_all {l : List S47} {m : Nat} (h : ∀ x ∈ l, x.f1.size ≤ m) (i : Nat) : (tx l i).size ≤ m := by
  unfold tx rd_T47
  rw [Int.toNat_natCast, List.getD_eq_getElem?_getD]
  cases e : l[i]? with
  | none => exact Nat.zero_le _
  | some x => exact h x (List.mem_of_getElem? e)
theorem bound_calls (n b : Int) (w : World) : Calls Tryd.prog 34 #[.int .i64 n, .int .i64 b] w fun e w' => e = .returned (.int .i64 (bound n b)) ∧ Below w.heap.size w w' := column_Bound.calls n b _ w (bound_is n b)
section
variable {k : Int} {A : Option Addr} {c : Nat} {l : List S47} {w : World}
set_option maxHeartbeats 8000000 in
theorem back_great (hU : UtfW w) (hr : Kd.C k47 w A l.length l) (hlen : l.length ≤ 140737488351232) (htx : ∀ i, (tx l i).size ≤ 140737488351232) (hg : gs l l.length > 5000) :
    Calls Tryd.prog 10 #[.int .i64 k, .slice A l.length c] w fun e w' => e = .returned (.bool true) ∧ Below w.heap.size w w' := by
  have HU := Aside0.mk hU
  have HG := Aside0.mk (fun (W : World) (hb : Below w.heap.size w W) => great_calls (c := c) W (Kd.C_below hr hb) hlen htx)
  rw [decide_eq_true hg] at HG
  obtain ⟨n, hn⟩ : ∃ n, l.length = n := ⟨_, rfl⟩
  rw [hn] at HG ⊢
  clear hU hr hlen htx hg hn
  go_enter Tryd.func10, Tryd.ntmps10
  go_wp2_with fail
  refine (alive_calls _ HU.out).mono ?_
  rintro e w1 ⟨rfl, b1⟩
  have B1 := Aside0.mk b1
  clear b1
  go_wp2_with fail
  refine (HG.out _ B1.out).mono ?_
  rintro e w2 ⟨rfl, b2⟩
  have B2 := Aside0.mk (below_step B1.out b2)
  clear b2
  go_wp2_with fail
  refine (alive_calls _ (HU.out.below B2.out)).mono ?_
  rintro e w3 ⟨rfl, b3⟩
  have B3 := Aside0.mk (below_step B2.out b3)
  clear b3
  go_wp2
  go_ret
  exact ⟨rfl, B3.out⟩
set_option maxHeartbeats 8000000 in
theorem back_many (hU : UtfW w) (hr : Kd.C k47 w A l.length l) (hlen : l.length ≤ 140737488351232) (htx : ∀ i, (tx l i).size ≤ 140737488351232) (hg : ¬ gs l l.length > 5000) (hm : 1015 < l.length) :
    Calls Tryd.prog 10 #[.int .i64 k, .slice A l.length c] w fun e w' => e = .returned (.bool true) ∧ Below w.heap.size w w' := by
  have HU := Aside0.mk hU
  have HG := Aside0.mk (fun (W : World) (hb : Below w.heap.size w W) => great_calls (c := c) W (Kd.C_below hr hb) hlen htx)
  rw [decide_eq_false hg] at HG
  obtain ⟨n, hn⟩ : ∃ n, l.length = n := ⟨_, rfl⟩
  rw [hn] at HG hm ⊢
  have t1 : decide ((1015 : Int) < (n : Int)) = true := decide_eq_true (by omega)
  have t2 : decide (1015 < n) = true := decide_eq_true hm
  clear hU hr hlen htx hg hn hm
  go_enter Tryd.func10, Tryd.ntmps10
  go_wp2_with fail
  refine (alive_calls _ HU.out).mono ?_
  rintro e w1 ⟨rfl, b1⟩
  have B1 := Aside0.mk b1
  clear b1
  go_wp2_with fail
  refine (HG.out _ B1.out).mono ?_
  rintro e w2 ⟨rfl, b2⟩
  have B2 := Aside0.mk (below_step B1.out b2)
  clear b2
  go_wp2_with fail
  refine (alive_calls _ (HU.out.below B2.out)).mono ?_
  rintro e w3 ⟨rfl, b3⟩
  have B3 := Aside0.mk (below_step B2.out b3)
  clear b3
  go_wp2
  go_ret
  exact ⟨rfl, B3.out⟩
set_option maxHeartbeats 8000000 in
theorem back_wrong (hU : UtfW w) (hr : Kd.C k47 w A l.length l) (hc : l.length ≤ c) (hn : l.length ≤ 1015) (htx : ∀ i, (tx l i).size ≤ 140737488351232) (hnum : ∀ i, 0 ≤ nm l i ∧ nm l i < 18446744073709551616) (hg : ¬ gs l l.length > 5000) (hE : wErr k l ≠ 0) :
    Calls Tryd.prog 10 #[.int .i64 k, .slice A l.length c] w fun e w' => e = .returned (.bool true) ∧ Below w.heap.size w w' := by
  have HU := Aside0.mk hU
  have HG := Aside0.mk (fun (W : World) (hb : Below w.heap.size w W) => great_calls (c := c) W (Kd.C_below hr hb) (by omega) htx)
  rw [decide_eq_false hg] at HG
  have HW := Aside0.mk (fun (W : World) (hb : Below w.heap.size w W) => write_calls' k W (Kd.C_below hr hb) hc (by omega) (fun i => by have := htx i; omega) (fun z => absurd z hE) (hnum 0) (hU.below hb))
  rw [show wBytes k l = [] from by rw [wBytes, if_neg hE]] at HW
  obtain ⟨E, hEE⟩ : ∃ E, wErr k l = E := ⟨_, rfl⟩
  rw [hEE] at HW hE
  obtain ⟨n, hnn⟩ : ∃ n, l.length = n := ⟨_, rfl⟩
  rw [hnn] at HG HW hn ⊢
  have t1 : decide ((1015 : Int) < (n : Int)) = false := decide_eq_false (by omega)
  have t2 : decide (1015 < n) = false := decide_eq_false (by omega)
  have v1 : (E != 0) = true := bne_iff_ne.mpr hE
  clear hU hr hc htx hnum hg hnn hn hE hEE
  go_enter Tryd.func10, Tryd.ntmps10
  go_wp2_with fail
  refine (alive_calls _ HU.out).mono ?_
  rintro e w1 ⟨rfl, b1⟩
  have B1 := Aside0.mk b1
  clear b1
  go_wp2_with fail
  refine (HG.out _ B1.out).mono ?_
  rintro e w2 ⟨rfl, b2⟩
  have B2 := Aside0.mk (below_step B1.out b2)
  clear b2
  go_wp2_with fail
  refine (HW.out _ B2.out).mono ?_
  rintro e w3 ⟨v3, rfl, hv3, b3⟩
  have B3 := Aside0.mk (below_step B2.out b3)
  obtain ⟨A3, c3, rfl⟩ := Kd.R_slice hv3
  clear b3 hv3
  go_wp2_with fail
  go_ret
  exact ⟨rfl, B3.out⟩
set_option maxHeartbeats 16000000 in
theorem back_right (hU : UtfW w) (hr : Kd.C k47 w A l.length l) (hc : l.length ≤ c) (hn : l.length ≤ 1015) (hnum : ∀ i, 0 ≤ nm l i ∧ nm l i < 18446744073709551616) (hg : ¬ gs l l.length > 5000) (hE : wErr k l = 0) :
    Calls Tryd.prog 10 #[.int .i64 k, .slice A l.length c] w fun e w' => e = .returned (.bool true) ∧ Below w.heap.size w w' := by
  have hk : 0 ≤ k ∧ k ≤ 5 := by
    by_cases h : 0 ≤ k ∧ k ≤ 5
    · exact h
    · rw [wErr, if_neg h] at hE; simp at hE
  have hf : fe k l l.length = 0 := by rw [wErr, if_pos hk] at hE; exact hE
  have hts : ∀ j, j < l.length → (tx l j).size ≤ 256 := fun j hj => chk_small (fe_all hf j hj)
  have htx : ∀ i, (tx l i).size ≤ 1048576 := fun i => by
    by_cases hi : i < l.length
    · have := hts i hi; omega
    · unfold tx rd_T47
      rw [Int.toNat_natCast, List.getD_eq_getElem?_getD, List.getElem?_eq_none (by omega)]
      exact Nat.zero_le _
  have hnum' : ∀ j, j < l.length → 0 ≤ nm l j ∧ nm l j < 18446744073709551616 := fun j _ => hnum j
  have HU := Aside0.mk hU
  have HR := Aside0.mk hr
  have HC := Aside0.mk hc
  have HTS := Aside0.mk hts
  have HG := Aside0.mk (fun (W : World) (hb : Below w.heap.size w W) => great_calls (c := c) W (Kd.C_below hr hb) (by omega) (fun i => by have := htx i; omega))
  rw [decide_eq_false hg] at HG
  have HW := Aside0.mk (fun (W : World) (hb : Below w.heap.size w W) => write_calls k W (Kd.C_below hr hb) hc ⟨by omega, htx⟩ (hnum 0) (hU.below hb))
  rw [hE, show wBytes k l = wrote k l from by rw [wBytes, if_pos hE]] at HW
  have hXl := wrote_len hk hts (hnum 0)
  have hXb := wrote_bytes hnum' hf
  have hb0 := tk_back (L := wrote k l) (B := []) 0 hk (by omega) hf hnum' (by simp)
  have hb1 := tk_back (L := wrote k l ++ [0]) (B := [0]) 0 hk (by omega) hf hnum' (by simp)
  have hmo := tk_more hk hn hf hnum'
  have hcu := fun z => tk_cut hk hn hf hnum' z
  have hts2 := tsum_le hts l.length (Nat.le_refl _)
  obtain ⟨X, hX⟩ : ∃ X, wrote k l = X := ⟨_, rfl⟩
  rw [hX] at HW hXl hXb hb0 hb1 hmo hcu
  have HXB := Aside0.mk hXb
  have HD0 := Aside0.mk (fun (W : World) (A2 : Option Addr) (c2 : Nat) (hb : Below w.heap.size w W) (h1 : (Kd.int .u8).C W A2 X.length X) (h2 : X.length ≤ c2) => cread_calls k (l.length : Int) W h1 h2 hXb (by omega) (hU.below hb))
  have HD1 := Aside0.mk (fun (W : World) (A2 : Option Addr) (c2 : Nat) (hb : Below w.heap.size w W) (h1 : (Kd.int .u8).C W A2 (X ++ [0]).length (X ++ [0])) (h2 : (X ++ [0]).length ≤ c2) => cread_calls k (l.length : Int) W h1 h2 (hXb.app (by intro c hc; rw [List.mem_singleton.1 hc]; exact ⟨by decide, by decide⟩)) (by rw [List.length_append, List.length_singleton]; omega) (hU.below hb))
  have HD2 := Aside0.mk (fun (W : World) (A2 : Option Addr) (c2 : Nat) (hb : Below w.heap.size w W) (h1 : (Kd.int .u8).C W A2 X.length X) (h2 : X.length ≤ c2) => cread_calls k ((l.length : Int) + 8) W h1 h2 hXb (by omega) (hU.below hb))
  have HD3 := Aside0.mk (fun (W : World) (A2 : Option Addr) (c2 : Nat) (hb : Below w.heap.size w W) (h1 : (Kd.int .u8).C W A2 (X.take (X.length - 1)).length (X.take (X.length - 1))) (h2 : (X.take (X.length - 1)).length ≤ c2) => cread_calls k (l.length : Int) W h1 h2 (hXb.take _) (by rw [List.length_take]; omega) (hU.below hb))
  have e0_ : rdErr X (l, 0 + X.length, 0) = 0 := by unfold rdErr; rw [if_pos rfl, if_neg (by dsimp only; omega)]
  have e0c : rdCells X (l, 0 + X.length, 0) = l := by unfold rdCells; rw [if_pos e0_]
  rw [hb0, e0_, e0c] at HD0
  have e1_ : rdErr (X ++ [0]) (l, 0 + X.length, 0) = 7 := by unfold rdErr; rw [if_pos rfl, if_pos (by rw [List.length_append]; simp)]
  have e1c : rdCells (X ++ [0]) (l, 0 + X.length, 0) = [] := by unfold rdCells; rw [if_neg (by rw [e1_]; decide)]
  rw [hb1, e1_, e1c] at HD1
  have hp2 := tk_le hXb k ((l.length : Int) + 8) (Nat.zero_le _)
  obtain ⟨r2, hr2⟩ : ∃ r2, tk X k ((l.length : Int) + 8) 0 = r2 := ⟨_, rfl⟩
  rw [hr2] at HD2 hmo hp2
  have e2c : rdCells X r2 = [] := by unfold rdCells; rw [if_neg (by rw [err5 hmo]; decide)]
  rw [err5 hmo, e2c] at HD2
  have hp3 := tk_le (hXb.take (X.length - 1)) k (l.length : Int) (Nat.zero_le _)
  rw [List.length_take] at hp3
  obtain ⟨r3, hr3⟩ : ∃ r3, tk (X.take (X.length - 1)) k (l.length : Int) 0 = r3 := ⟨_, rfl⟩
  rw [hr3] at HD3 hcu hp3
  have HE3 := Aside0.mk (fun (z : 0 < X.length) => (show rdErr (X.take (X.length - 1)) r3 = 5 ∧ rdCells (X.take (X.length - 1)) r3 = [] from ⟨err5 (hcu z) _, by unfold rdCells; rw [if_neg (by rw [err5 (hcu z)]; decide)]⟩))
  obtain ⟨n, hnn⟩ : ∃ n, l.length = n := ⟨_, rfl⟩
  have HN := Aside0.mk hnn
  obtain ⟨m, hm⟩ : ∃ m, X.length = m := ⟨_, rfl⟩
  have HM := Aside0.mk hm
  rw [hnn] at HG HW HD0 HD1 HD2 HD3 hn hXl hts2 ⊢
  rw [hm] at hXl hp2 hp3
  obtain ⟨T, hT⟩ : ∃ T, tsum l n = T := ⟨_, rfl⟩
  have HT := Aside0.mk hT
  rw [hT] at hXl hts2
  dsimp only at HD0 HD1
  rw [Nat.zero_add, hm] at HD0 HD1
  rw [hm] at HD2 HD3 HE3
  obtain ⟨p2, hp2e⟩ : ∃ p2, r2.2.1 = p2 := ⟨_, rfl⟩
  rw [hp2e] at HD2
  obtain ⟨p3, hp3e⟩ : ∃ p3, r3.2.1 = p3 := ⟨_, rfl⟩
  rw [hp3e] at HD3 hp3
  have t1 : decide ((1015 : Int) < (n : Int)) = false := decide_eq_false (by omega)
  have t2 : decide (1015 < n) = false := decide_eq_false (by omega)
  have hbd : bound (n : Int) (T : Int) = 10 * (n : Int) + (T : Int) := by unfold bound; rw [if_neg (by omega)]
  have HBD := Aside0.mk (fun W => bound_calls (n : Int) (T : Int) W)
  rw [hbd] at HBD
  have t3 : decide (10 * (n : Int) + (T : Int) < (m : Int)) = false := decide_eq_false (by omega)
  clear hU hr hc hnum hg hE hk hf hts htx hnum' hXb hb0 hb1 hmo hcu e0_ e0c e1_ e1c hr2 e2c hr3 hnn hm hT hX hp2e hp3e hp2 hbd
  go_enter Tryd.func10, Tryd.ntmps10
  go_wp2_with fail
  refine (alive_calls _ HU.out).mono ?_
  rintro e w1 ⟨rfl, b1⟩
  have B1 := Aside0.mk b1
  clear b1
  go_wp2_with fail
  refine (HG.out _ B1.out).mono ?_
  rintro e w2 ⟨rfl, b2⟩
  have B2 := Aside0.mk (below_step B1.out b2)
  clear b2 HG B1
  go_wp2_with fail
  refine (HW.out _ B2.out).mono ?_
  rintro e w3 ⟨v3, rfl, hv3, b3⟩
  have B3 := Aside0.mk (below_step B2.out b3)
  have V3 := Aside0.mk hv3
  obtain ⟨A3, c3, hc3, hl3, hr3⟩ := Kd.R_reads hv3
  subst hc3
  rw [HM.out] at hl3 hr3
  have HL3 := Aside0.mk hl3
  have HC3 := Aside0.mk hr3
  clear b3 hv3 hl3 hr3 HW B2
  rw [HM.out]
  have HDA := Aside0.mk (HD0.out w3 A3 c3 B3.out HC3.out HL3.out)
  go_wp2_with fail
  refine HDA.out.mono ?_
  rintro e w4 ⟨v4, rfl, hv4, b4⟩
  have B4 := Aside0.mk (below_step B3.out b4)
  have HC4 := Aside0.mk (Kd.C_below HC3.out b4)
  obtain ⟨A4, c4, hc4, hl4, hr4⟩ := Kd.R_reads hv4
  subst hc4
  have HL4 := Aside0.mk hl4
  have HR4 := Aside0.mk hr4
  rw [HN.out]
  clear b4 hv4 hl4 hr4 HDA B3 HC3 HD0
  go_wp2_with fail
  go_loopw [10, 56] (fun s i wr => ∃ j : Nat, j ≤ n ∧ i = .int .i64 (j : Int) ∧ s = .int .i64 (tsum l j : Int) ∧ Aside0 (Below w4.heap.size w4 wr)) (fun _ i _ => n - (intOf i).toNat)
  case atStart => exact ⟨0, by omega, rfl, rfl, ⟨Below.refl _ _⟩⟩
  case round =>
    obtain ⟨j, hj, rfl, rfl, HB⟩ := hrel
    have HBW := Aside0.mk (below_step B4.out HB.out)
    by_cases hlt : j < n
    · have u1 : decide ((j : Int) < (n : Int)) = true := decide_eq_true (by omega)
      have u2 : decide (j < n) = true := decide_eq_true hlt
      have HLT := Aside0.mk hlt
      obtain ⟨ad, e, h0, h1⟩ := at_T47 (Kd.C_below HR.out HBW.out) (j : Int) (by omega) (by have := HN.out; omega)
      cases e
      rw [Int.toNat_natCast] at h0 h1
      have p1 : (0 ≤ (j : Int)) = True := eq_true (by omega)
      have p2' : ((j : Int) < (n : Int)) = True := eq_true (by omega)
      have hmax : (j : Int) + 1 ≤ 9223372036854775807 := by omega
      have HTJ := Aside0.mk (show tsum l (j + 1) = tsum l j + (tx l j).size from rfl)
      have hsz := HTS.out j (by have := HN.out; omega)
      have htj := tsum_le HTS.out j (by have := HN.out; omega)
      obtain ⟨s, hse⟩ : ∃ s, tx l j = s := ⟨_, rfl⟩
      obtain ⟨x, hne⟩ : ∃ x, (rd_T47 l (j : Int)).f0 = x := ⟨_, rfl⟩
      rw [show (rd_T47 l (j : Int)).f1 = s from hse] at h1
      rw [hne] at h0
      rw [hse] at HTJ hsz
      obtain ⟨y, hy⟩ : ∃ y, tsum l j = y := ⟨_, rfl⟩
      rw [hy] at HTJ htj ⊢
      have htj2 : y ≤ 262144 := by omega
      clear htj
      have HBA := Aside0.mk (below_alloc HB.out (.cells #[.int .u64 x, .string s] 47))
      clear hlt hj hse hne hy t3
      go_wp2_with fail
      go_roundw
      case rel => exact ⟨j + 1, HLT.out, by go_num, by have := HLT.out; rw [HTJ.out]; go_num, ⟨HBA.out⟩⟩
      case measure => have := HLT.out; simp [intOf]; omega
    · have u1 : decide ((j : Int) < (n : Int)) = false := decide_eq_false (by omega)
      have u2 : decide (j < n) = false := decide_eq_false hlt
      obtain rfl : j = n := by omega
      rw [HT.out]
      have HC5 := Aside0.mk (Kd.C_below HC4.out HB.out)
      have HSM := Aside0.mk (same_calls (c0 := c) (c1 := c4) (by have := HN.out; omega) wr (Kd.C_below HR.out HBW.out) HC.out (Kd.C_below HR4.out HB.out) HL4.out)
      rw [HN.out] at HSM
      clear hlt hj HB HR4 HC4 u1 u2
      go_wp2_with fail
      refine HSM.out.mono ?_
      rintro e w6 ⟨rfl, b6⟩
      have B6 := Aside0.mk (below_step HBW.out b6)
      have HC6 := Aside0.mk (Kd.C_below HC5.out b6)
      clear b6 HC5 HBW HSM
      go_wp2_with fail
      refine (HBD.out _).mono ?_
      rintro e w7 ⟨rfl, b7⟩
      have B7 := Aside0.mk (below_step B6.out b7)
      have HC7 := Aside0.mk (Kd.C_below HC6.out b7)
      clear b7 HC6 B6 HBD
      by_cases hz : 0 < m
      · have z1 : decide ((0 : Int) < (m : Int)) = true := decide_eq_true (by omega)
        have z2 : decide (0 < m) = true := decide_eq_true hz
        obtain ⟨hcut, hcc, hcl⟩ := cut_head (l := X) (a := m - 1) (by rw [HM.out]; exact HC7.out) (by rw [HM.out]; exact HL3.out) (by rw [HM.out]; omega)
        have hcut1 := fun W => hcut W
        rw [HM.out, show ((m - 1 : Nat) : Int) = (m : Int) - 1 by omega] at hcut1
        have HDA := Aside0.mk (HD3.out w7 A3 c3 B7.out (hcc w7 (by rw [HM.out]; exact HC7.out)) hcl)
        rw [(HE3.out hz).1, (HE3.out hz).2, List.length_take, HM.out, show min (m - 1) m = m - 1 by omega] at HDA
        have q1 : decide ((p3 : Int) ≥ (m : Int)) = false := decide_eq_false (by omega)
        have q2 : decide ((m : Int) ≤ (p3 : Int)) = false := decide_eq_false (by omega)
        have q3 : decide (m ≤ p3) = false := decide_eq_false (by omega)
        clear hcut hcc hcl
        go_wp2_with fail
        refine HDA.out.mono ?_
        rintro e w8 ⟨v8, rfl, hv8, b8⟩
        have B8 := Aside0.mk (below_step B7.out b8)
        have HC8 := Aside0.mk (Kd.C_below HC7.out b8)
        obtain ⟨A8, c8, rfl⟩ := Kd.R_slice hv8
        clear b8 hv8 HC7 B7 HDA hcut1
        have HDB := Aside0.mk (HD2.out w8 A3 c3 B8.out HC8.out HL3.out)
        clear HD2 HD3
        go_wp2_with fail
        refine HDB.out.mono ?_
        rintro e w9 ⟨v9, rfl, hv9, b9⟩
        have B9 := Aside0.mk (below_step B8.out b9)
        have HC9 := Aside0.mk (Kd.C_below HC8.out b9)
        obtain ⟨A9, c9, rfl⟩ := Kd.R_slice hv9
        clear b9 hv9 HC8 B8 HDB
        have HE9 := Aside0.mk (empty_own w9 w.heap.size B9.out.size)
        have hba := below_alloc (Below.refl w9.heap.size w9) (.cells #[] 5)
        have BA := Aside0.mk (below_step B9.out hba)
        have HCA := Aside0.mk (Kd.C_below HC9.out hba)
        clear hba
        go_wp2_with (first | ((with_reducible refine gate_builtin (b := .append) (xs := #[.tmp 124, .tmp 125]) rfl ?_); (try (refine gate_guard (by rfl) ?_; dsimp only)); at_builtin; refine Kd.R_append_rows (Kd.int .u8) (w0 := w) w.heap.size rfl (.tmp 124) (.tmp 125) 25 5 (.int .u8 0) 1 rfl Tryd.underlying25 infoB rfl (by decide) (by omega) _ [] X A3 m c3 (fun _ => True) (fun _ => False) rfl rfl ?aO ?aR (fun _ _ h => h) (fun _ h => h.elim) ?aF ?aB ?aS ?aL ?_; (case aO => exact HE9.out); (case aR => exact HCA.out); (case aF => exact fun _ _ => trivial); (case aB => exact BA.out); (case aS => exact BA.out.size); (case aL => simp; omega); intro v10 w10 ho hb hg hat; have HO10 := Aside0.mk ho; have B10 := Aside0.mk hb; clear ho hb hg hat) | ((with_reducible refine gate_builtin (b := .append) (xs := #[.tmp 126, .tmp 127]) rfl ?_); (try (refine gate_guard (by rfl) ?_; dsimp only)); at_builtin; refine Kd.R_append (Kd.int .u8) (w0 := w) w.heap.size rfl (.tmp 126) (.tmp 127) 25 5 (.int .u8 0) 1 rfl Tryd.underlying25 infoB rfl (by decide) (by omega) _ ([] ++ X) (0 : Int) [.int .u8 0] (fun _ => True) (fun _ => False) rfl rfl ?aP (fun _ hk => hk.elim) ?aF ?aO ?aB ?aS ?aL ?_; (case aP => exact rfl); (case aB => exact B10.out); (case aF => exact (fun _ _ => trivial)); (case aO => exact HO10.out); (case aS => exact B10.out.size); (case aL => rw [List.nil_append, HM.out]; omega); intro v11 w11 ho hb hg hat; have HO11 := Aside0.mk ho; have B11 := Aside0.mk hb; obtain ⟨A11, c11, hs11⟩ := Kd.R_slice ho; subst hs11; clear ho hb hg hat))
        have h11 := HO11.out
        rw [List.nil_append] at h11
        obtain ⟨-, hl11, hr11⟩ := Kd.R_reads' h11
        have HDE := Aside0.mk (HD1.out w11 A11 c11 B11.out hr11 hl11)
        rw [show (X ++ [(0 : Int)]).length = X.length + 1 by simp] at HDE
        clear h11 hl11 hr11 HO10 HO11 HD1 HE9 HC9 HCA
        refine HDE.out.mono ?_
        rintro e w12 ⟨v12, rfl, hv12, b12⟩
        have B12 := Aside0.mk (below_step B11.out b12)
        obtain ⟨A12, c12, rfl⟩ := Kd.R_slice hv12
        clear hv12 b12 HDE
        go_wp2_with fail
        go_ret
        exact ⟨rfl, B12.out⟩
      · have z1 : decide ((0 : Int) < (m : Int)) = false := decide_eq_false (by omega)
        have z2 : decide (0 < m) = false := decide_eq_false hz
        have B8 := Aside0.mk B7.out
        have HC8 := Aside0.mk HC7.out
        clear HC7 B7
        generalize w7 = w8 at *
        have HDB := Aside0.mk (HD2.out w8 A3 c3 B8.out HC8.out HL3.out)
        clear HD2 HD3
        go_wp2_with fail
        refine HDB.out.mono ?_
        rintro e w9 ⟨v9, rfl, hv9, b9⟩
        have B9 := Aside0.mk (below_step B8.out b9)
        have HC9 := Aside0.mk (Kd.C_below HC8.out b9)
        obtain ⟨A9, c9, rfl⟩ := Kd.R_slice hv9
        clear b9 hv9 HC8 B8 HDB
        have HE9 := Aside0.mk (empty_own w9 w.heap.size B9.out.size)
        have hba := below_alloc (Below.refl w9.heap.size w9) (.cells #[] 5)
        have BA := Aside0.mk (below_step B9.out hba)
        have HCA := Aside0.mk (Kd.C_below HC9.out hba)
        clear hba
        go_wp2_with (first | ((with_reducible refine gate_builtin (b := .append) (xs := #[.tmp 124, .tmp 125]) rfl ?_); (try (refine gate_guard (by rfl) ?_; dsimp only)); at_builtin; refine Kd.R_append_rows (Kd.int .u8) (w0 := w) w.heap.size rfl (.tmp 124) (.tmp 125) 25 5 (.int .u8 0) 1 rfl Tryd.underlying25 infoB rfl (by decide) (by omega) _ [] X A3 m c3 (fun _ => True) (fun _ => False) rfl rfl ?aO ?aR (fun _ _ h => h) (fun _ h => h.elim) ?aF ?aB ?aS ?aL ?_; (case aO => exact HE9.out); (case aR => exact HCA.out); (case aF => exact fun _ _ => trivial); (case aB => exact BA.out); (case aS => exact BA.out.size); (case aL => simp; omega); intro v10 w10 ho hb hg hat; have HO10 := Aside0.mk ho; have B10 := Aside0.mk hb; clear ho hb hg hat) | ((with_reducible refine gate_builtin (b := .append) (xs := #[.tmp 126, .tmp 127]) rfl ?_); (try (refine gate_guard (by rfl) ?_; dsimp only)); at_builtin; refine Kd.R_append (Kd.int .u8) (w0 := w) w.heap.size rfl (.tmp 126) (.tmp 127) 25 5 (.int .u8 0) 1 rfl Tryd.underlying25 infoB rfl (by decide) (by omega) _ ([] ++ X) (0 : Int) [.int .u8 0] (fun _ => True) (fun _ => False) rfl rfl ?aP (fun _ hk => hk.elim) ?aF ?aO ?aB ?aS ?aL ?_; (case aP => exact rfl); (case aB => exact B10.out); (case aF => exact (fun _ _ => trivial)); (case aO => exact HO10.out); (case aS => exact B10.out.size); (case aL => rw [List.nil_append, HM.out]; omega); intro v11 w11 ho hb hg hat; have HO11 := Aside0.mk ho; have B11 := Aside0.mk hb; obtain ⟨A11, c11, hs11⟩ := Kd.R_slice ho; subst hs11; clear ho hb hg hat))
        have h11 := HO11.out
        rw [List.nil_append] at h11
        obtain ⟨-, hl11, hr11⟩ := Kd.R_reads' h11
        have HDE := Aside0.mk (HD1.out w11 A11 c11 B11.out hr11 hl11)
        rw [show (X ++ [(0 : Int)]).length = X.length + 1 by simp] at HDE
        clear h11 hl11 hr11 HO10 HO11 HD1 HE9 HC9 HCA
        refine HDE.out.mono ?_
        rintro e w12 ⟨v12, rfl, hv12, b12⟩
        have B12 := Aside0.mk (below_step B11.out b12)
        obtain ⟨A12, c12, rfl⟩ := Kd.R_slice hv12
        clear hv12 b12 HDE
        go_wp2_with fail
        go_ret
        exact ⟨rfl, B12.out⟩
theorem back_calls (hU : UtfW w) (hr : Kd.C k47 w A l.length l) (hc : l.length ≤ c) (hlen : l.length ≤ 140737488351232) (htx : ∀ i, (tx l i).size ≤ 140737488351232) (hnum : ∀ i, 0 ≤ nm l i ∧ nm l i < 18446744073709551616) :
    Calls Tryd.prog 10 #[.int .i64 k, .slice A l.length c] w fun e w' => e = .returned (.bool true) ∧ Below w.heap.size w w' := by
  by_cases hg : gs l l.length > 5000
  · exact back_great hU hr hlen htx hg
  by_cases hm : 1015 < l.length
  · exact back_many hU hr hlen htx hg hm
  by_cases hE : wErr k l = 0
  · exact back_right hU hr hc (by omega) hnum hg hE
  · exact back_wrong hU hr hc (by omega) htx hnum hg hE
end
end Go.Proofs.YtmoopdhnnpjcfaaDoor.Bk
