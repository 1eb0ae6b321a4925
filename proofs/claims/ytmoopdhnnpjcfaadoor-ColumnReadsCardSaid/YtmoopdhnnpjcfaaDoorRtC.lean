import Derived.Test.YtmoopdhnnpjcfaaDoorRtB
/-! Column: the document's Read; ColumnReads. -/
namespace Go.Proofs.YtmoopdhnnpjcfaaDoor.Rt
open Go.RowKit Go.Proofs.YtmoopdhnnpjcfaaDoorW.PrintWords Go.Proofs.YtmoopdhnnpjcfaaDoorW.PrintLast Go.Proofs.YtmoopdhnnpjcfaaDoorW.PrintMore Go.Proofs.YtmoopdhnnpjcfaaDoor.Wire Go.Proofs.YtmoopdhnnpjcfaaDoor.PCo Go.Proofs.YtmoopdhnnpjcfaaDoor.CoG Go.Proofs.YtmoopdhnnpjcfaaDoor.CoM Go.Proofs.YtmoopdhnnpjcfaaDoor.Rd Go.Proofs.YtmoopdhnnpjcfaaDoor.Co
set_option linter.unusedVariables false
set_option linter.unusedSimpArgs false
set_option maxRecDepth 100000
theorem tnx_len (l : List Int) : ∀ m a last xs, (tnx l m a last xs).1.length ≤ xs.length + m
  | 0, a, last, xs => Nat.le_refl _
  | m + 1, a, last, xs => by
    rw [tnx]
    split
    · have := tnx_len l m (a + gk l a) (nxt last (gx l a)) (xs ++ [⟨nxt last (gx l a), e0⟩])
      rw [List.length_append, List.length_singleton] at this
      omega
    · exact Nat.zero_le _
theorem ttx_len (l : List Int) (strict : Bool) : ∀ m a last xs, (ttx l strict m a last xs).1.length ≤ xs.length + m
  | 0, a, last, xs => Nat.le_refl _
  | m + 1, a, last, xs => by
    rw [ttx]
    split
    · exact Nat.zero_le _
    split
    · exact Nat.zero_le _
    split
    · exact Nat.zero_le _
    split
    · exact Nat.zero_le _
    split
    · exact Nat.zero_le _
    have := ttx_len l strict m (ta l a) (tt l a last) (xs ++ [⟨0, tt l a last⟩])
    rw [List.length_append, List.length_singleton] at this
    omega
theorem tb_len (l : List Int) (n : Nat) : ∀ f a xs, xs.length ≤ n → (tb l n f a xs).1.length ≤ n
  | 0, a, xs, h => h
  | f + 1, a, xs, h => by
    rw [tb]
    split
    · split
      · split
        · exact tb_len l n f _ _ (by rw [List.length_append, row8_len]; omega)
        · exact Nat.zero_le _
      · exact Nat.zero_le _
    · exact h
theorem tk_len (l : List Int) (k n : Int) (a : Nat) : (tk l k n a).1.length ≤ 1024 := by
  unfold tk
  split
  · exact Nat.zero_le _
  · rename_i hk
    split
    · exact Nat.zero_le _
    · rename_i hn
      have h1 := tnx_len l n.toNat a 0 []
      have h2 := tb_len l n.toNat (n.toNat + 1) a [] (Nat.zero_le _)
      have h3 := ttx_len l false n.toNat a e0 []
      have h4 := ttx_len l true n.toNat a e0 []
      rw [List.length_nil] at h1 h3 h4
      split
      · omega
      · split
        · omega
        · split
          · omega
          · split
            · omega
            · unfold tnum
              split
              · exact Nat.zero_le _
              · split
                · have := tnx_len l (n.toNat - 1) (a + gk l a) (gx l a) [⟨gx l a, e0⟩]
                  rw [List.length_singleton] at this
                  omega
                · exact Nat.zero_le _
theorem rdCells_len (l : List Int) (k n : Int) : (rdCells l (tk l k n 0)).length ≤ 1024 := by
  unfold rdCells
  split
  · exact tk_len l k n 0
  · exact Nat.zero_le _
theorem rtake_calls {w0 w : World} {g : Nat} {L : List Int} (hb : Bytes L) (hl : L.length ≤ 140737488351232) (hI : IsS115 w0 w g L 0 0) (hB : Below w0.heap.size w0 w) (k n : Int) :
    Calls Tryd.prog 71 #[.pointer (some ⟨g, 0, none⟩), .int .i64 k, .int .i64 n] w (RtFin w0 g L (tk L k n 0)) := by
  by_cases hk : 0 ≤ k ∧ k ≤ 5
  · by_cases hn : 0 ≤ n ∧ n ≤ 1024
    · obtain ⟨m, rfl⟩ := Int.eq_ofNat_of_zero_le hn.1
      by_cases h2 : k = 2
      · subst h2
        exact rt_bits hb hl hI hB m (by omega)
      · exact rt_step hb hl hI hB k m hk.1 hk.2 h2 (by omega)
    · have e : tk L k n 0 = ([], 0, 3) := by unfold tk; rw [if_neg (fun h => h hk), if_pos hn]
      rw [e]
      by_cases h : n < 0
      · exact rt_ok_neg hI hB k n hk h
      · exact rt_ok_big hI hB k n hk (by omega)
  · have e : tk L k n 0 = ([], 0, 10) := by unfold tk; rw [if_pos hk]
    rw [e]
    by_cases h : k < 0
    · by_cases h1 : n < 0
      · exact rt_neg_neg hI hB k n h h1
      · by_cases h2 : 1024 < n
        · exact rt_neg_big hI hB k n h h2
        · by_cases h3 : n = 0
          · exact rt_neg_ok0 hI hB k n h h3
          · exact rt_neg_ok hI hB k n h (by omega)
    · have h5 : 5 < k := by omega
      by_cases h1 : n < 0
      · exact rt_big_neg hI hB k n h5 h1
      · by_cases h2 : 1024 < n
        · exact rt_big_big hI hB k n h5 h2
        · by_cases h3 : n = 0
          · exact rt_big_ok0 hI hB k n h5 h3
          · exact rt_big_ok hI hB k n h5 (by omega)
theorem done_is (L : List Int) (r : Res) : deckleref03_Reader_Done.f L (r.2.1 : Int) r.2.2 = some ((r.2.1 : Int), rdErr L r, (r.2.1 : Int), r.2.2) := by
  unfold deckleref03_Reader_Done.f rdErr
  by_cases h : r.2.2 = 0
  · rw [if_pos h, if_pos h]
    by_cases h1 : r.2.1 < L.length
    · rw [if_pos h1, if_pos (by omega)]
    · rw [if_neg h1, if_neg (by omega), h]
  · rw [if_neg h, if_neg h]
set_option maxHeartbeats 8000000 in
/-- The document's Read. -/
theorem rread_calls {A : Option Addr} {c : Nat} {L : List Int} (k n : Int) (w : World) (hr : (Kd.int .u8).C w A L.length L) (hc : L.length ≤ c) (hb : Bytes L) (hl : L.length ≤ 140737488351232) :
    Calls Tryd.prog 25 #[.slice A L.length c, .int .i64 k, .int .i64 n] w fun e w' => ∃ v, e = .returned (.tuple #[v, .int .i64 ((tk L k n 0).2.1 : Int), .int .i64 (rdErr L (tk L k n 0))]) ∧ Kd.R k47 47 w' w.heap.size (fun _ => True) v (rdCells L (tk L k n 0)) ∧ Below w.heap.size w w' := by
  have HTK := Aside0.mk (fun (W : World) (hI : IsS115 w W w.heap.size L 0 0) (hB : Below w.heap.size w W) => rtake_calls hb hl hI hB k n)
  have hz := heap_alloc_new w (.cells #[.slice A L.length c, .int .i64 0, .int .i64 0] 115)
  have HI := Aside0.mk (show IsS115 w (w.alloc (.cells #[.slice A L.length c, .int .i64 0, .int .i64 0] 115)) w.heap.size L 0 0 from ⟨A, c, hz, ⟨Nat.le_refl _, hc⟩, hr⟩)
  have HB := Aside0.mk (below_alloc (Below.refl w.heap.size w) (.cells #[.slice A L.length c, .int .i64 0, .int .i64 0] 115))
  obtain ⟨r, hrr⟩ : ∃ r, tk L k n 0 = r := ⟨_, rfl⟩
  rw [hrr] at HTK ⊢
  have HDN := Aside0.mk (done_is L r)
  clear hz hr hc hb hl hrr
  go_enter Tryd.func25, Tryd.ntmps25
  go_wp2_with fail
  refine (HTK.out _ HI.out HB.out).mono ?_
  rintro e w2 ⟨v, rfl, hi2, hb2, ⟨B, m, d, rfl⟩, hrow⟩
  have HCD := Aside0.mk (deckleref03_Reader_Done.calls w.heap.size L (r.2.1 : Int) r.2.2 (r.2.1 : Int) (rdErr L r) (r.2.1 : Int) r.2.2 w w2 hi2 hb2 HDN.out)
  have HRW := Aside0.mk (fun h0 => hi2.apart (hrow h0) (by decide))
  have HIL := Aside0.mk hi2.lt
  clear hi2 hb2 hrow HTK HDN HI HB
  go_wp2_with fail
  refine HCD.out.mono ?_
  rintro e w3 ⟨rfl, hi3, hb3, hk3⟩
  have HB3 := Aside0.mk hb3
  have HK3 := Aside0.mk hk3
  clear hi3 hb3 hk3 HCD
  by_cases hE : rdErr L r = 0
  · have h0 : r.2.2 = 0 := by
      unfold rdErr at hE
      by_cases h : r.2.2 = 0
      · exact h
      · rw [if_neg h] at hE; exact hE
    have HR3 := Aside0.mk (Kd.R_mono (ok' := fun _ => True) (Kd.R_kept (HRW.out h0) (keeps HK3.out) (fun k hk z => hk.2 z)) (fun _ _ => trivial))
    have HC := Aside0.mk (show rdCells L r = r.1 from by rw [rdCells, if_pos hE])
    have HE := Aside0.mk hE
    rw [hE]
    clear hE h0 HRW
    go_wp2
    go_ret3
    exact ⟨_, by rw [HE.out]; rfl, by rw [HC.out]; exact HR3.out, HB3.out⟩
  · have HC := Aside0.mk (show rdCells L r = [] from by rw [rdCells, if_neg hE])
    have v1 : (rdErr L r != 0) = true := bne_iff_ne.mpr hE
    obtain ⟨E, hEE⟩ : ∃ E, rdErr L r = E := ⟨_, rfl⟩
    rw [hEE] at v1 ⊢
    have HE := Aside0.mk hEE
    clear hE hEE HRW
    go_wp2
    go_ret3
    exact ⟨.slice none 0 0, by rw [HE.out]; rfl, by rw [HC.out]; exact Kd.R_nil _ _ _ _ _, HB3.out⟩
theorem same_loop (l : List S47) (hl : l.length ≤ 1099511627776) : ∀ d k j, l.length - j = d → j ≤ l.length → d < k → deckleref06_Same.l0 k l l (j : Int) = some true := by
  intro d
  induction d with
  | zero =>
    intro k j hd hj hk
    obtain ⟨k, rfl⟩ : ∃ q, k = q + 1 := ⟨k - 1, by omega⟩
    rw [deckleref06_Same.l0, if_neg (by omega)]
  | succ d ih =>
    intro k j hd hj hk
    obtain ⟨k, rfl⟩ : ∃ q, k = q + 1 := ⟨k - 1, by omega⟩
    rw [deckleref06_Same.l0, if_pos (by omega), if_pos (by omega), if_pos (by omega), if_neg (by simp), w64 (by omega) (by omega)]
    exact ih k (j + 1) (by omega) (by omega) (by omega)
theorem same_calls {A0 A1 : Option Addr} {c0 c1 : Nat} {l : List S47} (hl : l.length ≤ 1099511627776) (w : World) (hr0 : Kd.C k47 w A0 l.length l) (hc0 : l.length ≤ c0) (hr1 : Kd.C k47 w A1 l.length l) (hc1 : l.length ≤ c1) :
    Calls Tryd.prog 26 #[.slice A0 l.length c0, .slice A1 l.length c1] w fun e w' => e = .returned (.bool true) ∧ Below w.heap.size w w' :=
  (deckleref06_Same.calls (l.length + 1) A0 c0 l A1 c1 l true w hr0 hc0 hr1 hc1 (by unfold deckleref06_Same.f; rw [if_pos rfl]; exact same_loop l hl l.length (l.length + 1) 0 (by omega) (by omega) (by omega))).mono fun _ _ ⟨he, hd⟩ => ⟨he, hd.below⟩
set_option maxHeartbeats 8000000 in
theorem reads_calls (k n : Int) {A : Option Addr} {c : Nat} {l : List Int} (w : World) (hU : UtfW w) (hr : (Kd.int .u8).C w A l.length l) (hc : l.length ≤ c) (hb : Bytes l) (hl : l.length ≤ 140737488351232) :
    Calls Tryd.prog 4 #[.slice A l.length c, .int .i64 k, .int .i64 n] w fun e w' => e = .returned (.bool true) ∧ Below w.heap.size w w' := by
  have HU := Aside0.mk hU
  have HR1 := Aside0.mk (fun (W : World) (hbl : Below w.heap.size w W) => cread_calls k n W (Kd.C_below hr hbl) hc hb hl (hU.below hbl))
  have HR2 := Aside0.mk (fun (W : World) (hbl : Below w.heap.size w W) => rread_calls k n W (Kd.C_below hr hbl) hc hb hl)
  have HCL := Aside0.mk (rdCells_len l k n)
  obtain ⟨p, hp⟩ : ∃ p, (tk l k n 0).2.1 = p := ⟨_, rfl⟩
  obtain ⟨E, hE⟩ : ∃ E, rdErr l (tk l k n 0) = E := ⟨_, rfl⟩
  obtain ⟨cs, hcs⟩ : ∃ cs, rdCells l (tk l k n 0) = cs := ⟨_, rfl⟩
  rw [hp, hE, hcs] at HR1 HR2
  rw [hcs] at HCL
  obtain ⟨m, hm⟩ : ∃ m, l.length = m := ⟨_, rfl⟩
  rw [hm] at HR1 HR2 ⊢
  by_cases hbig : 3000 < m
  · have t1 : decide ((3000 : Int) < (m : Int)) = true := decide_eq_true (by omega)
    have t2 : decide (3000 < m) = true := decide_eq_true hbig
    clear hU hr hc hb hl hbig hm hp hE hcs HR1 HR2
    go_enter Tryd.func4, Tryd.ntmps4
    go_wp2_with fail
    refine (alive_calls _ HU.out).mono ?_
    rintro e w1 ⟨rfl, b1⟩
    have B1 := Aside0.mk b1
    clear b1
    go_wp2_with fail
    refine (alive_calls _ (HU.out.below B1.out)).mono ?_
    rintro e w2 ⟨rfl, b2⟩
    have B2 := Aside0.mk (below_step B1.out b2)
    clear b2
    go_wp2
    go_ret
    exact ⟨rfl, B2.out⟩
  have t1 : decide ((3000 : Int) < (m : Int)) = false := decide_eq_false (by omega)
  have t2 : decide (3000 < m) = false := decide_eq_false hbig
  clear hU hr hc hb hl hbig hm hp hE hcs
  go_enter Tryd.func4, Tryd.ntmps4
  go_wp2_with fail
  refine (alive_calls _ HU.out).mono ?_
  rintro e w1 ⟨rfl, b1⟩
  have B1 := Aside0.mk b1
  clear b1
  go_wp2_with fail
  refine (HR1.out _ B1.out).mono ?_
  rintro e w2 ⟨v2, rfl, hv2, b2⟩
  obtain ⟨A2, c2, rfl, hd2, hrow2⟩ := Kd.R_reads hv2
  have B2 := Aside0.mk (below_step B1.out b2)
  have HC2 := Aside0.mk hrow2
  have HD2 := Aside0.mk hd2
  obtain ⟨M, hM⟩ : ∃ M, cs.length = M := ⟨_, rfl⟩
  have HM := Aside0.mk hM
  rw [hM]
  clear b2 hv2 hd2 hrow2 HR1 hM
  go_wp2_with fail
  refine (HR2.out _ B2.out).mono ?_
  rintro e w3 ⟨v3, rfl, hv3, b3⟩
  obtain ⟨A3, c3, rfl, hd3, hrow3⟩ := Kd.R_reads hv3
  have B3 := Aside0.mk (below_step B2.out b3)
  have HS := Aside0.mk (same_calls (by have := HCL.out; omega) w3 (Kd.C_below HC2.out b3) HD2.out hrow3 hd3)
  rw [HM.out] at HS ⊢
  clear b3 hv3 hd3 hrow3 HR2
  go_wp2_with fail
  refine HS.out.mono ?_
  rintro e w4 ⟨rfl, b4⟩
  have B4 := Aside0.mk (below_step B3.out b4)
  clear b4 HS
  go_wp2
  go_ret
  exact ⟨rfl, B4.out⟩
end Go.Proofs.YtmoopdhnnpjcfaaDoor.Rt
