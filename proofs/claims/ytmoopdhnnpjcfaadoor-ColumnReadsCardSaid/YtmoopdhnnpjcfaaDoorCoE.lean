import Derived.Test.YtmoopdhnnpjcfaaDoorCoD
/-! Column: Write. -/
namespace Go.Proofs.YtmoopdhnnpjcfaaDoor.Co
open Go.RowKit Go.Proofs.YtmoopdhnnpjcfaaDoorW.PrintWords Go.Proofs.YtmoopdhnnpjcfaaDoorW.PrintLast Go.Proofs.YtmoopdhnnpjcfaaDoorW.PrintMore Go.Proofs.YtmoopdhnnpjcfaaDoor.Wire Go.Proofs.YtmoopdhnnpjcfaaDoor.PCo Go.Proofs.YtmoopdhnnpjcfaaDoor.CoG
set_option linter.unusedVariables false
set_option linter.unusedSimpArgs false
set_option maxRecDepth 100000
/-- The first error among the first j cells. -/
def fe (k : Int) (l : List S47) : Nat → Int
  | 0 => 0
  | j + 1 => if fe k l j ≠ 0 then fe k l j else chk k (nm l j) (tx l j)
theorem fe_stays (k : Int) (l : List S47) {i : Nat} (h : fe k l i ≠ 0) : ∀ j, i ≤ j → fe k l j = fe k l i := by
  intro j
  induction j with
  | zero => intro hj; obtain rfl : i = 0 := by omega
            rfl
  | succ j ih =>
    intro hj
    by_cases e : i = j + 1
    · rw [e]
    · rw [fe, ih (by omega), if_pos h]
def wErr (k : Int) (l : List S47) : Int := if 0 ≤ k ∧ k ≤ 5 then fe k l l.length else 10
def wrote (k : Int) (l : List S47) : List Int :=
  if k = 0 then nbs l 0 0 l.length else if k = 2 then wb l ((l.length + 7) / 8) l.length else if k = 3 ∨ k = 4 then txs l l.length else nums l
def wBytes (k : Int) (l : List S47) : List Int := if wErr k l = 0 then wrote k l else []
theorem kinds_at0 (w : World) : Sem.run Tryd.prog (Instr.index 108 (.agg #[fnv 114, fnv 115, fnv 112, fnv 113, fnv 116, fnv 117, fnv 108, fnv 109, fnv 108, fnv 111, fnv 112, fnv 113]) (.int .i64 0)) w = .ok (.agg #[fnv 114, fnv 115]) w := by kernel_rfl
theorem kinds_at1 (w : World) : Sem.run Tryd.prog (Instr.index 108 (.agg #[fnv 114, fnv 115, fnv 112, fnv 113, fnv 116, fnv 117, fnv 108, fnv 109, fnv 108, fnv 111, fnv 112, fnv 113]) (.int .i64 1)) w = .ok (.agg #[fnv 112, fnv 113]) w := by kernel_rfl
theorem kinds_at2 (w : World) : Sem.run Tryd.prog (Instr.index 108 (.agg #[fnv 114, fnv 115, fnv 112, fnv 113, fnv 116, fnv 117, fnv 108, fnv 109, fnv 108, fnv 111, fnv 112, fnv 113]) (.int .i64 2)) w = .ok (.agg #[fnv 116, fnv 117]) w := by kernel_rfl
theorem kinds_at3 (w : World) : Sem.run Tryd.prog (Instr.index 108 (.agg #[fnv 114, fnv 115, fnv 112, fnv 113, fnv 116, fnv 117, fnv 108, fnv 109, fnv 108, fnv 111, fnv 112, fnv 113]) (.int .i64 3)) w = .ok (.agg #[fnv 108, fnv 109]) w := by kernel_rfl
theorem kinds_at4 (w : World) : Sem.run Tryd.prog (Instr.index 108 (.agg #[fnv 114, fnv 115, fnv 112, fnv 113, fnv 116, fnv 117, fnv 108, fnv 109, fnv 108, fnv 111, fnv 112, fnv 113]) (.int .i64 4)) w = .ok (.agg #[fnv 108, fnv 111]) w := by kernel_rfl
theorem kinds_at5 (w : World) : Sem.run Tryd.prog (Instr.index 108 (.agg #[fnv 114, fnv 115, fnv 112, fnv 113, fnv 116, fnv 117, fnv 108, fnv 109, fnv 108, fnv 111, fnv 112, fnv 113]) (.int .i64 5)) w = .ok (.agg #[fnv 112, fnv 113]) w := by kernel_rfl
theorem kinds_field (a b : Nat) (w : World) : Sem.run Tryd.prog (Instr.field 107 (.agg #[fnv a, fnv b]) 0) w = .ok (fnv a) w := by kernel_rfl
set_option maxHeartbeats 8000000 in
theorem write_calls' (k : Int) {A : Option Addr} {c : Nat} {l : List S47} (w : World) (hr : Kd.C k47 w A l.length l) (hc : l.length ≤ c) (hlen : l.length ≤ 140737488351232) (htx : ∀ i, (tx l i).size ≤ 9223372036854775806) (hs : wErr k l = 0 → Small l) (hn0 : 0 ≤ nm l 0 ∧ nm l 0 < 18446744073709551616) (hU : UtfW w) :
    Calls Tryd.prog 22 #[.int .i64 k, .slice A l.length c] w fun e w' => ∃ v, e = .returned (.tuple #[v, .int .i64 (wErr k l)]) ∧ Kd.R (Kd.int .u8) 5 w' w.heap.size (fun _ => True) v (wBytes k l) ∧ Below w.heap.size w w' := by
  by_cases hk : 0 ≤ k ∧ k ≤ 5
  · have HR := Aside0.mk hr
    have HS := Aside0.mk hs
    have HTX := Aside0.mk htx
    have HC := Aside0.mk hc
    have HN0 := Aside0.mk hn0
    have HUT := Aside0.mk hU
    have HK := Aside0.mk hk
    have t1 : decide (0 ≤ k ∧ k ≤ 5) = true := decide_eq_true hk
    obtain ⟨n, hn⟩ : ∃ n, l.length = n := ⟨_, rfl⟩
    have HN := Aside0.mk hn
    have hnb : n ≤ 140737488351232 := by omega
    rw [hn]
    have HWE := Aside0.mk (show wErr k l = fe k l n from by rw [wErr, if_pos hk, hn])
    clear hr hs hn hc hn0 hU hk htx hlen
    go_enter Tryd.func22, Tryd.ntmps22
    go_wp2_with fail
    refine (kindly_calls k _).mono ?_
    rintro e w1 ⟨rfl, b1⟩
    rw [t1]
    have HB1 := Aside0.mk b1
    clear b1 t1
    go_wp2_with fail
    go_loopw [14] (fun i wr => ∃ j : Nat, j ≤ n ∧ i = .int .i64 (j : Int) ∧ Aside0 (fe k l j = 0) ∧ Aside0 (Below w.heap.size w wr)) (fun i _ => n - (intOf i).toNat)
    case atStart => exact ⟨0, by omega, rfl, ⟨rfl⟩, ⟨HB1.out⟩⟩
    case round =>
      obtain ⟨j, hj, rfl, HF, HB⟩ := hrel
      clear HB1
      by_cases hlt : j < n
      · have u1 : decide ((j : Int) < (n : Int)) = true := decide_eq_true (by omega)
        have u2 : decide (j < n) = true := decide_eq_true hlt
        have HLT := Aside0.mk hlt
        obtain ⟨ad, e, h0, h1⟩ := at_T47 (Kd.C_below HR.out HB.out) (j : Int) (by omega) (by have := HN.out; omega)
        cases e
        rw [Int.toNat_natCast] at h0 h1
        have p1 : (0 ≤ (j : Int)) = True := eq_true (by omega)
        have p2 : ((j : Int) < (n : Int)) = True := eq_true (by omega)
        have hmax : (j : Int) + 1 ≤ 9223372036854775807 := by omega
        have HFE := Aside0.mk (show fe k l (j + 1) = chk k (nm l j) (tx l j) from by rw [fe, if_neg (by rw [HF.out]; decide)])
        have HST := Aside0.mk (HTX.out j)
        obtain ⟨s, hse⟩ : ∃ s, tx l j = s := ⟨_, rfl⟩
        obtain ⟨x, hne⟩ : ∃ x, nm l j = x := ⟨_, rfl⟩
        rw [show (rd_T47 l (j : Int)).f1 = s from hse] at h1
        rw [show (rd_T47 l (j : Int)).f0 = x from hne] at h0
        rw [hse] at HFE HST
        rw [hne] at HFE
        have HBA := Aside0.mk (below_alloc HB.out (.cells #[.int .u64 x, .string s] 47))
        have HCC := Aside0.mk (check_calls k x s (wr.alloc (.cells #[.int .u64 x, .string s] 47)) (by have := HST.out; omega) (HUT.out.below HBA.out))
        clear hlt hj hse hne
        go_wp2_with fail
        refine HCC.out.mono ?_
        rintro e w2 ⟨rfl, b2⟩
        have HB2 := Aside0.mk (below_step HBA.out b2)
        clear b2 HCC HBA h0 h1 HB HUT
        obtain ⟨E, hE⟩ : ∃ E, chk k x s = E := ⟨_, rfl⟩
        rw [hE] at HFE ⊢
        by_cases hz : E = 0
        · subst hz
          go_wp2_with fail
          go_roundw
          case rel => exact ⟨j + 1, HLT.out, by go_num, ⟨HFE.out⟩, ⟨HB2.out⟩⟩
          case measure => have := HLT.out; simp [intOf]; omega
        · have v1 : (E != 0) = true := bne_iff_ne.mpr hz
          have HZ := Aside0.mk hz
          clear hE hz
          go_wp2
          go_ret2
          have hw : wErr k l = E := by rw [HWE.out, ← HFE.out]; exact fe_stays k l (by rw [HFE.out]; exact HZ.out) n HLT.out
          exact ⟨.slice none 0 0, by rw [hw]; rfl, by rw [wBytes, hw, if_neg HZ.out]; exact Kd.R_nil _ _ _ _ _, HB2.out⟩
      · have u1 : decide ((j : Int) < (n : Int)) = false := decide_eq_false (by omega)
        have u2 : decide (j < n) = false := decide_eq_false hlt
        obtain rfl : n = j := by omega
        have HW0 := Aside0.mk (show wErr k l = 0 from by rw [HWE.out]; exact HF.out)
        have HWB := Aside0.mk (show wBytes k l = wrote k l from by rw [wBytes, if_pos HW0.out])

        clear HF HWE hj hlt
        have HS1 := Aside0.mk (HS.out HW0.out)
        have HL := Aside0.mk (show l.length ≤ 1048576 from HS1.out.len)
        obtain hk := HK.out
        clear HK
        go_wp2_with fail
        refine (kinds_calls _).mono ?_
        rintro e w3 ⟨rfl, b3⟩
        have HB3 := Aside0.mk (below_step HB.out b3)
        have HR3 := Aside0.mk (Kd.C_below HR.out HB3.out)
        clear b3 HB HR
        have HLN := Aside0.mk (show n = l.length from HN.out.symm)
        rw [HLN.out] at hnb ⊢
        clear HN
        rcases (show k = 0 ∨ k = 1 ∨ k = 2 ∨ k = 3 ∨ k = 4 ∨ k = 5 by omega) with rfl | rfl | rfl | rfl | rfl | rfl
        · clear hk
          go_wp2_with fail
          rw [kinds_at0]
          go_wp2_with fail
          rw [kinds_field]
          unfold fnv
          go_wp2_with fail
          refine (writeSigned_calls _ HR3.out HC.out HL.out).mono ?_
          rintro e w4 ⟨v4, rfl, hv4, b4⟩
          go_wp2
          go_ret2
          exact ⟨v4, by rw [HW0.out]; rfl, by rw [HWB.out]; exact Kd.R_lower hv4 HB3.out.size, below_step HB3.out b4⟩
        · clear hk
          go_wp2_with fail
          rw [kinds_at1]
          go_wp2_with fail
          rw [kinds_field]
          unfold fnv
          go_wp2_with fail
          refine (writeNumbers_calls _ HR3.out HC.out HL.out HN0.out).mono ?_
          rintro e w4 ⟨v4, rfl, hv4, b4⟩
          go_wp2
          go_ret2
          exact ⟨v4, by rw [HW0.out]; rfl, by rw [HWB.out]; exact Kd.R_lower hv4 HB3.out.size, below_step HB3.out b4⟩
        · clear hk
          go_wp2_with fail
          rw [kinds_at2]
          go_wp2_with fail
          rw [kinds_field]
          unfold fnv
          go_wp2_with fail
          refine (writeBools_calls _ HR3.out HL.out).mono ?_
          rintro e w4 ⟨v4, rfl, hv4, b4⟩
          go_wp2
          go_ret2
          exact ⟨v4, by rw [HW0.out]; rfl, by rw [HWB.out]; exact Kd.R_lower hv4 HB3.out.size, below_step HB3.out b4⟩
        · clear hk
          go_wp2_with fail
          rw [kinds_at3]
          go_wp2_with fail
          rw [kinds_field]
          unfold fnv
          go_wp2_with fail
          refine (writeTexts_calls _ HR3.out HS1.out).mono ?_
          rintro e w4 ⟨v4, rfl, hv4, b4⟩
          go_wp2
          go_ret2
          exact ⟨v4, by rw [HW0.out]; rfl, by rw [HWB.out]; exact Kd.R_lower hv4 HB3.out.size, below_step HB3.out b4⟩
        · clear hk
          go_wp2_with fail
          rw [kinds_at4]
          go_wp2_with fail
          rw [kinds_field]
          unfold fnv
          go_wp2_with fail
          refine (writeTexts_calls _ HR3.out HS1.out).mono ?_
          rintro e w4 ⟨v4, rfl, hv4, b4⟩
          go_wp2
          go_ret2
          exact ⟨v4, by rw [HW0.out]; rfl, by rw [HWB.out]; exact Kd.R_lower hv4 HB3.out.size, below_step HB3.out b4⟩
        · clear hk
          go_wp2_with fail
          rw [kinds_at5]
          go_wp2_with fail
          rw [kinds_field]
          unfold fnv
          go_wp2_with fail
          refine (writeNumbers_calls _ HR3.out HC.out HL.out HN0.out).mono ?_
          rintro e w4 ⟨v4, rfl, hv4, b4⟩
          go_wp2
          go_ret2
          exact ⟨v4, by rw [HW0.out]; rfl, by rw [HWB.out]; exact Kd.R_lower hv4 HB3.out.size, below_step HB3.out b4⟩
  · have t1 : decide (0 ≤ k ∧ k ≤ 5) = false := decide_eq_false hk
    have hw : wErr k l = 10 := by rw [wErr, if_neg hk]
    have HW := Aside0.mk (show wBytes k l = [] from by rw [wBytes, hw]; rfl)
    rw [hw, HW.out]
    clear hk hw HW hr hs hc htx hlen
    go_enter Tryd.func22, Tryd.ntmps22
    go_wp2_with fail
    refine (kindly_calls k _).mono ?_
    rintro e w1 ⟨rfl, b1⟩
    rw [t1]
    go_wp2
    go_ret2
    exact ⟨_, rfl, Kd.R_nil _ _ _ _ _, b1⟩
theorem write_calls (k : Int) {A : Option Addr} {c : Nat} {l : List S47} (w : World) (hr : Kd.C k47 w A l.length l) (hc : l.length ≤ c) (hs : Small l) (hn0 : 0 ≤ nm l 0 ∧ nm l 0 < 18446744073709551616) (hU : UtfW w) :
    Calls Tryd.prog 22 #[.int .i64 k, .slice A l.length c] w fun e w' => ∃ v, e = .returned (.tuple #[v, .int .i64 (wErr k l)]) ∧ Kd.R (Kd.int .u8) 5 w' w.heap.size (fun _ => True) v (wBytes k l) ∧ Below w.heap.size w w' :=
  write_calls' k w hr hc (by have := hs.len; omega) (fun i => by have := hs.text i; omega) (fun _ => hs) hn0 hU
end Go.Proofs.YtmoopdhnnpjcfaaDoor.Co
