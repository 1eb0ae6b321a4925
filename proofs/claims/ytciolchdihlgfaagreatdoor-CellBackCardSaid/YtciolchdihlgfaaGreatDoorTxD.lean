import Derived.Test.YtciolchdihlgfaaGreatDoorTxC
import Derived.Test.YtciolchdihlgfaaGreatDoorCeF
/-! Cell: written, Text. -/
namespace Go.Proofs.YtciolchdihlgfaaGreatDoor.Tx
open Go.RowKit Go.Proofs.YtciolchdihlgfaaGreatDoorW.PrintWords Go.Proofs.YtciolchdihlgfaaGreatDoorW.PrintLast Go.Proofs.YtciolchdihlgfaaGreatDoorW.PrintMore Go.Proofs.YtciolchdihlgfaaGreatDoor.Wire Go.Proofs.YtciolchdihlgfaaGreatDoor.PCo Go.Proofs.YtciolchdihlgfaaGreatDoor.Co Go.Proofs.YtciolchdihlgfaaGreatDoor.Ce Go.Proofs.YtciolchdihlgfaaGreatDoor.Num
set_option linter.unusedVariables false
set_option linter.unusedSimpArgs false
set_option maxRecDepth 100000
theorem zs_wrap {n : Int} (h : 0 ≤ n ∧ n < 18446744073709551616) : wrap64 n = zs n := by unfold wrap64 zs; split <;> omega
theorem signed_calls (n : Int) (s : ByteArray) (w : World) (hn : 0 ≤ n ∧ n < 18446744073709551616) : Calls Tryz.prog 26 #[.agg #[.int .u64 n, .string s]] w fun e w' => e = .returned (.int .i64 (zs n)) ∧ Below w.heap.size w w' := by
  have hz := zs_wrap hn
  have HB := Aside0.mk (below_alloc (Below.refl w.heap.size w) (.cells #[.int .u64 n, .string s] 24))
  rw [← hz]
  clear hz hn
  go_enter Tryz.func26, Tryz.ntmps26
  go_wp2
  go_ret
  exact ⟨rfl, HB.out⟩
theorem str_add' (a b : ByteArray) (h : a.size + b.size ≤ 9223372036854775807) : Op.stringOp .add a b = pure (.string (a ++ b)) := by
  have h : ¬ (((a.size + b.size : Nat) : Int) > IntKind.i64.max) := by rw [show IntKind.i64.max = 9223372036854775807 from rfl]; omega
  exact if_neg h
theorem hexD_16 {n : Nat} (h : n < 18446744073709551616) : (hexD n).length ≤ 16 ∧ hexK 16 n = List.replicate (16 - (hexD n).length) 48 ++ hexD n := by
  have := hexK_pad 15 n (by rw [show (16 : Nat) ^ (15 + 1) = 18446744073709551616 from by decide]; exact h)
  exact this
set_option maxHeartbeats 8000000 in
theorem written_calls (k n : Int) (s : ByteArray) (hk : 0 ≤ k ∧ k < 6) (hn : 0 ≤ n ∧ n < 18446744073709551616) (hs : s.size ≤ 1000000) (w : World) (hT : PowW w) (hB : BitW w) :
    Calls Tryz.prog 65 #[.int .i64 k, .agg #[.int .u64 n, .string s]] w fun e w' => e = .returned (.string (ctx k n s)) ∧ Below w.heap.size w w' := by
  have HB0 := Aside0.mk (below_alloc (Below.refl w.heap.size w) (.cells #[.int .u64 n, .string s] 24))
  have : k = 0 ∨ k = 1 ∨ k = 2 ∨ k = 3 ∨ k = 4 ∨ k = 5 := by omega
  rcases this with rfl | rfl | rfl | rfl | rfl | rfl
  · have HS := Aside0.mk (fun W => signed_calls n s W hn)
    have HF := Aside0.mk (fun (W : World) (hb : Below w.heap.size w W) => Tryz.strconv_FormatInt_10 (zs n) (zs_rng hn).1 (zs_rng hn).2 W (hT.below hb).tab)
    rw [show ctx 0 n s = ⟨(Lib.itoa (zs n)).toArray⟩ from rfl]
    clear hk hn hs hT hB
    go_enter Tryz.func65, Tryz.ntmps65
    go_wp2_with fail
    refine (HS.out _).mono ?_
    rintro e w2 ⟨rfl, hb⟩
    have HB1 := Aside0.mk (below_step HB0.out hb)
    clear hb
    go_wp2_with fail
    refine (HF.out _ HB1.out).mono ?_
    rintro e w3 ⟨rfl, q, os, rfl⟩
    have hfin := below_step HB1.out (Lib.below_grow w2.heap.size w2 (Nat.le_refl _) q os)
    generalize Go.Sort.grow (w2.drewN q) os = W3 at *
    go_wp2_with fail
    go_ret
    exact ⟨rfl, hfin⟩
  · obtain ⟨u, rfl⟩ : ∃ u : Nat, n = (u : Int) := ⟨n.toNat, by omega⟩
    have HF := Aside0.mk (fun (W : World) (hb : Below w.heap.size w W) => fmt10 u (by omega) W (hT.below hb))
    rw [show ctx 1 (u : Int) s = ⟨(Lib.decDigits u).toArray⟩ from rfl]
    clear hk hn hs hT hB
    go_enter Tryz.func65, Tryz.ntmps65
    go_wp2_with fail
    refine (HF.out _ HB0.out).mono ?_
    rintro e w3 ⟨rfl, hb⟩
    have hfin := below_step HB0.out hb
    clear hb
    go_wp2_with fail
    go_ret
    exact ⟨rfl, hfin⟩
  · have HF := Aside0.mk (fun (b : Bool) (W : World) => Tryz.strconv_FormatBool b W)
    have HE := Aside0.mk (show (⟨(Lib.formatBool (n == 1)).toArray⟩ : ByteArray) = ctx 2 n s from by
      by_cases h : n = 1
      · subst h; rfl
      · rw [beq_eq_false_iff_ne.2 h]
        unfold ctx tx
        rw [if_neg (by decide), if_neg (by decide), if_pos rfl, if_neg h]; rfl)
    clear hk hn hs hT hB
    go_enter Tryz.func65, Tryz.ntmps65
    go_wp2_with fail
    refine (HF.out _ _).mono ?_
    rintro e w3 ⟨rfl, rfl⟩
    go_wp2_with fail
    go_ret
    exact ⟨by rw [← HE.out]; rfl, HB0.out⟩
  · have HH := Aside0.mk (fun W => hex_calls s hs W)
    rw [show ctx 3 n s = hexv s from by unfold ctx; rw [tx_text s (.inl rfl), list_self]]
    clear hk hn hs hT hB
    go_enter Tryz.func65, Tryz.ntmps65
    go_wp2_with fail
    refine (HH.out _).mono ?_
    rintro e w2 ⟨rfl, hb⟩
    have hfin := below_step HB0.out hb
    go_wp2_with fail
    go_ret
    exact ⟨rfl, hfin⟩
  · have HH := Aside0.mk (fun W => hex_calls s hs W)
    rw [show ctx 4 n s = hexv s from by unfold ctx; rw [tx_text s (.inr rfl), list_self]]
    clear hk hn hs hT hB
    go_enter Tryz.func65, Tryz.ntmps65
    go_wp2_with fail
    refine (HH.out _).mono ?_
    rintro e w2 ⟨rfl, hb⟩
    have hfin := below_step HB0.out hb
    go_wp2_with fail
    go_ret
    exact ⟨rfl, hfin⟩
  · obtain ⟨u, rfl⟩ : ∃ u : Nat, n = (u : Int) := ⟨n.toNat, by omega⟩
    have hu : u < 18446744073709551616 := by omega
    have HF := Aside0.mk (fun (W : World) (hb : Below w.heap.size w W) => fmt16 u hu W (hB.below hb))
    obtain ⟨h1, h2⟩ := hexD_16 hu
    have hz : (⟨(hexD u).toArray⟩ : ByteArray).size = (hexD u).length := by show (hexD u).toArray.size = _; exact List.size_toArray ..
    obtain ⟨t, ht⟩ : ∃ t, (⟨(hexD u).toArray⟩ : ByteArray) = t := ⟨_, rfl⟩
    obtain ⟨m, hm⟩ : ∃ m, 16 - (hexD u).length = m := ⟨_, rfl⟩
    rw [ht] at HF hz
    have HE := Aside0.mk (show (⟨(Lib.repeatL (⟨#[48]⟩ : ByteArray).data.toList m).toArray⟩ : ByteArray) ++ t = ctx 5 (u : Int) s from by
      refine data_inj ?_
      rw [ByteArray.data_append, Array.toList_append, ← ht]
      show (Lib.repeatL [48] m).toArray.toList ++ (hexD u).toArray.toList = (hexK 16 (u : Int).toNat).toArray.toList
      rw [List.toList_toArray, List.toList_toArray, List.toList_toArray, Int.toNat_natCast, h2, rep_list, hm])
    have HR := Aside0.mk (fun (W : World) => Tryz.strings_Repeat ⟨#[48]⟩ m W (by omega) (by rw [show (⟨#[48]⟩ : ByteArray).size = 1 from rfl]; omega))
    obtain ⟨rp, hrp⟩ : ∃ rp, (⟨(Lib.repeatL (⟨#[48]⟩ : ByteArray).data.toList m).toArray⟩ : ByteArray) = rp := ⟨_, rfl⟩
    have hrs : rp.size = m := by
      rw [← hrp]
      show (Lib.repeatL [48] m).toArray.size = m
      rw [List.size_toArray, rep_list, List.length_replicate]
    rw [hrp] at HR HE
    have hadd := str_add' rp t (by omega)
    have wm : wrap64 (16 - (t.size : Int)) = (m : Int) := by rw [Ce.w64 (by omega) (by omega)]; omega
    have HM := Aside0.mk wm
    clear hk hn hs hT hB hu h1 h2 ht hm hrp hrs hz wm
    go_enter Tryz.func65, Tryz.ntmps65
    go_wp2_with fail
    refine (HF.out _ HB0.out).mono ?_
    rintro e w3 ⟨rfl, hb⟩
    have HB1 := Aside0.mk (below_step HB0.out hb)
    clear hb
    go_wp2_with fail
    rw [HM.out]
    refine (HR.out _).mono ?_
    rintro e w4 ⟨rfl, hb⟩
    have hfin := below_step HB1.out hb
    clear hb
    go_wp2_with fail
    go_ret
    exact ⟨by rw [← HE.out]; rfl, hfin⟩
set_option maxHeartbeats 4000000 in
theorem text_calls (k n : Int) (s : ByteArray) (hn : 0 ≤ n ∧ n < 18446744073709551616) (hs : s.size ≤ 1000000) (w : World) (hT : PowW w) (hB : BitW w) (hU : UtfW w) :
    Calls Tryz.prog 19 #[.int .i64 k, .agg #[.int .u64 n, .string s]] w fun e w' => e = .returned (.tuple #[.string (if chk k n s = 0 then ctx k n s else ⟨#[]⟩), .int .i64 (chk k n s)]) ∧ Below w.heap.size w w' := by
  have HB0 := Aside0.mk (below_alloc (Below.refl w.heap.size w) (.cells #[.int .u64 n, .string s] 24))
  have HC := Aside0.mk (fun (W : World) (hb : Below w.heap.size w W) => check_calls k n s W (by omega) (hU.below hb))
  by_cases hc : chk k n s = 0
  · have hk : 0 ≤ k ∧ k < 6 := by unfold chk at hc; split at hc <;> omega
    have HW := Aside0.mk (fun (W : World) (hb : Below w.heap.size w W) => written_calls k n s hk hn hs W (hT.below hb) (hB.below hb))
    rw [hc] at HC ⊢
    rw [if_pos rfl]
    clear hc hk hn hs hT hB hU
    go_enter Tryz.func19, Tryz.ntmps19
    go_wp2_with fail
    refine (HC.out _ HB0.out).mono ?_
    rintro e w2 ⟨rfl, hb⟩
    have HB1 := Aside0.mk (below_step HB0.out hb)
    have c0 := (Below.cell hb (p := ⟨w.heap.size, 0, none⟩) (by simp)).trans ((blk_cell (heap_alloc_new w (.cells #[.int .u64 n, .string s] 24)) 0).trans rfl)
    have c1 := (Below.cell hb (p := ⟨w.heap.size, 1, none⟩) (by simp)).trans ((blk_cell (heap_alloc_new w (.cells #[.int .u64 n, .string s] 24)) 1).trans rfl)
    clear hb
    go_wp2_with fail
    refine (HW.out _ HB1.out).mono ?_
    rintro e w3 ⟨rfl, hb⟩
    have hfin := below_step HB1.out hb
    clear hb c0 c1
    go_wp2_with fail
    go_ret2
    exact ⟨rfl, hfin⟩
  · obtain ⟨q, hq⟩ : ∃ q, chk k n s = q := ⟨_, rfl⟩
    rw [hq] at HC hc ⊢
    rw [if_neg hc]
    have t1 : (q != 0) = true := bne_iff_ne.mpr hc
    clear hc hn hs hT hB hU hq
    go_enter Tryz.func19, Tryz.ntmps19
    go_wp2_with fail
    refine (HC.out _ HB0.out).mono ?_
    rintro e w2 ⟨rfl, hb⟩
    have hfin := below_step HB0.out hb
    clear hb
    go_wp2_with fail
    go_ret2
    exact ⟨rfl, hfin⟩
end Go.Proofs.YtciolchdihlgfaaGreatDoor.Tx
