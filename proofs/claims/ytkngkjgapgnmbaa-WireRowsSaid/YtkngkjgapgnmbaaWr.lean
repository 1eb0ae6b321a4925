import Derived.Test.YtkngkjgapgnmbaaCp
namespace Go.Proofs.Ytkngkjgapgnmbaa.Wr
open Go.RowKit Go.Proofs.YtkngkjgapgnmbaaW.PrintWords Go.Proofs.YtkngkjgapgnmbaaW.PrintLast Go.Proofs.YtkngkjgapgnmbaaW.PrintMore Go.Proofs.Ytkngkjgapgnmbaa.Wire Go.Proofs.Ytkngkjgapgnmbaa.PCb Go.Proofs.Ytkngkjgapgnmbaa.WbG Go.Proofs.Ytkngkjgapgnmbaa.Cp
set_option linter.unusedVariables false
set_option linter.unusedSimpArgs false
set_option maxRecDepth 100000

/-- Numbers' bytes, one behind the other. -/
def many : List Int → List Int
  | [] => []
  | x :: t => uv x.toNat ++ many t
theorem many_app (a b : List Int) : many (a ++ b) = many a ++ many b := by
  induction a with
  | nil => rfl
  | cons x t ih => simp [many, ih]
theorem many_bytes (a : List Int) : Bytes (many a) := by
  induction a with
  | nil => intro c hc; cases hc
  | cons x t ih => exact (Bytes.uv _).app ih
theorem many_len {a : List Int} (h : ∀ x ∈ a, 0 ≤ x ∧ x < 18446744073709551616) : (many a).length ≤ 10 * a.length := by
  induction a with
  | nil => exact Nat.le_refl _
  | cons x t ih =>
    have hx := h x (List.mem_cons_self ..)
    have := ih (fun y hy => h y (List.mem_cons_of_mem _ hy))
    have hu : (uv x.toNat).length ≤ 10 := usz_le10 (by omega)
    simp only [many, List.length_append, List.length_cons]
    omega
theorem uint_calls (x : Int) (h0 : 0 ≤ x) (h1 : x < 18446744073709551616) (w : World) : Calls Try.prog 35 #[.int .u64 x] w fun e w' => ∃ v : Value, e = .returned v ∧ Kd.R (Kd.int .u8) 5 w' w.heap.size (fun _ => True) v (uv x.toNat) ∧ Below w.heap.size w w' := by
  obtain ⟨n, rfl⟩ := Int.eq_ofNat_of_zero_le h0
  rw [Int.toNat_natCast]
  exact wire_Uint.calls 12 _ _ w (uint n (by omega) 12 (by decide))
theorem size_calls (x : Int) (h0 : 0 ≤ x) (h1 : x < 18446744073709551616) (w : World) : Calls Try.prog 37 #[.int .u64 x] w fun e w' => e = .returned (.int .i64 (usz x.toNat : Int)) ∧ Below w.heap.size w w' := by
  obtain ⟨n, rfl⟩ := Int.eq_ofNat_of_zero_le h0
  rw [Int.toNat_natCast]
  exact wire_Size.calls 1 _ _ w (size n (by omega) 1 (by decide))
theorem getUint_calls {W : World} {A1 : Option Addr} {l : List Int} {n c : Nat} (hn : l.length = n) (hC : (Kd.int .u8).C W A1 l.length l) (hc : l.length ≤ c) (hb : Bytes l) :
    Calls Try.prog 36 #[.slice A1 n c] W fun e w' => e = .returned (.tuple #[.int .u64 (gu l).1, .int .i64 (gu l).2.1, .int .i64 (gu l).2.2]) ∧ Below W.heap.size W w' := by
  subst hn
  exact wire_GetUint.calls 12 A1 c l _ _ _ W hC hc (getUint l hb 12 (by decide))
theorem alive1_calls (w : World) : Calls Try.prog 34 #[] w fun e w' => e = .returned (.bool true) ∧ Below w.heap.size w w' := decklelaw01_alive.calls true w rfl
theorem drop_cons {xs : List Int} {k : Nat} (h : k < xs.length) : xs.drop k = rd xs (k : Int) :: xs.drop (k + 1) := by
  rw [List.drop_eq_getElem_cons h]
  unfold rd
  rw [Int.toNat_natCast, List.getD_eq_getElem?_getD, List.getElem?_eq_getElem h]; rfl
theorem take_snoc {xs : List Int} {k : Nat} (h : k < xs.length) : xs.take (k + 1) = xs.take k ++ [rd xs (k : Int)] := by
  rw [List.take_succ_eq_append_getElem h]
  unfold rd
  rw [Int.toNat_natCast, List.getD_eq_getElem?_getD, List.getElem?_eq_getElem h]; rfl
set_option maxHeartbeats 4000000 in
theorem wireRows_calls (A0 : Option Addr) (c0 : Nat) (xs : List Int) (w : World) (hr0 : Kd.C (Kd.int .u64) w A0 xs.length xs) (hc0 : xs.length ≤ c0) (hx0 : ∀ x ∈ xs, 0 ≤ x ∧ x < 18446744073709551616) :
    Calls Try.prog 13 #[.slice A0 xs.length c0] w fun e w' => e = .returned (.bool true) ∧ Below w.heap.size w w' := by
  have HR0 := Aside0.mk hr0
  have HX0 := Aside0.mk hx0
  have hm0 : xs.length ≤ 9223372036854775807 := hr0.2.1
  have hrd : ∀ k : Nat, k < xs.length → 0 ≤ rd xs (k : Int) ∧ rd xs (k : Int) < 18446744073709551616 := fun k hk => by
    unfold rd
    rw [Int.toNat_natCast, List.getD_eq_getElem?_getD, List.getElem?_eq_getElem hk]
    exact hx0 _ (List.getElem_mem hk)
  have HRD := Aside0.mk hrd
  clear hr0 hx0 hrd
  by_cases hbig : 200 < xs.length
  · have t1 : decide ((200 : Int) < (xs.length : Int)) = true := decide_eq_true (by omega)
    have t2 : decide (200 < xs.length) = true := decide_eq_true hbig
    go_enter Try.func13, Try.ntmps13
    go_wp2_with fail
    refine (alive1_calls _).mono ?_
    rintro e w1 ⟨rfl, b1⟩
    go_wp2
    go_ret
    exact ⟨rfl, b1⟩
  · have t1 : decide ((200 : Int) < (xs.length : Int)) = false := decide_eq_false (by omega)
    have t2 : decide (200 < xs.length) = false := decide_eq_false (by omega)
    have HL := Aside0.mk (show xs.length ≤ 200 by omega)
    clear hbig
    go_enter Try.func13, Try.ntmps13
    go_wp2
    go_loopw [3, 17] (fun v i wr => ∃ (k : Nat), k ≤ xs.length ∧ i = .int .i64 (k : Int) ∧ Aside0 (Kd.R (Kd.int .u8) 5 wr w.heap.size (fun _ => True) v (many (xs.take k))) ∧ Aside0 (Below w.heap.size w wr)) (fun _ i _ => xs.length - (intOf i).toNat)
    case atStart => exact ⟨0, by omega, rfl, ⟨Kd.R_nil _ _ _ _ _⟩, ⟨Below.refl _ _⟩⟩
    case round =>
      obtain ⟨k, hk, rfl, HO, HB⟩ := hrel
      by_cases hlt : k < xs.length
      · have u1 : decide ((k : Int) < (xs.length : Int)) = true := decide_eq_true (by omega)
        have u2 : decide (k < xs.length) = true := decide_eq_true hlt
        obtain ⟨ad, e, hx⟩ := Kd.at_int (Kd.C_below HR0.out HB.out) (k : Int) (by omega) (by omega)
        cases e
        rw [Int.toNat_natCast] at hx
        have HXR := Aside0.mk (HRD.out k hlt)
        have HTS := Aside0.mk (take_snoc hlt)
        have HML := Aside0.mk (show (many (xs.take k)).length ≤ 10 * 200 from by
          have h1 := many_len (a := xs.take k) (fun x hx => HX0.out x (List.mem_of_mem_take hx))
          have h2 : (xs.take k).length ≤ 200 := by rw [List.length_take]; have := HL.out; omega
          omega)
        generalize rd xs (k : Int) = x at *
        have HUL := Aside0.mk (show (uv x.toNat).length ≤ 10 from usz_le10 (by have := HXR.out; omega))
        have p1 : (0 ≤ (k : Int)) = True := eq_true (by omega)
        have p2 : ((k : Int) < (xs.length : Int)) = True := eq_true (by omega)
        have hmax : (k : Int) + 1 ≤ 9223372036854775807 := by omega
        have HLT := Aside0.mk hlt
        clear hlt hk
        go_wp2_with fail
        refine (uint_calls x HXR.out.1 HXR.out.2 _).mono ?_
        rintro e w2 ⟨v2, rfl, hv2, b2⟩
        have HV2 := Aside0.mk hv2
        have HO2 := Aside0.mk (Kd.R_below HO.out b2)
        have HB2 := Aside0.mk (below_step HB.out b2)
        clear hv2 b2 HO HB
        obtain ⟨A5, c5, rfl⟩ := Kd.R_slice HV2.out
        go_wp2_with (at_builtin; refine Kd.R_append_rows (Kd.int .u8) (w0 := w) w.heap.size rfl (.tmp 21) (.tmp 23) 22 5 (.int .u8 0) 1 rfl Try.underlying22 info8 rfl (by decide) (by omega) _ (many (xs.take k)) (uv x.toNat) A5 _ c5 (fun _ => True) (fun _ => False) rfl rfl ?aO ?aR (fun _ _ h => h) (fun _ h => h.elim) ?aF ?aB ?aS ?aL ?_; (case aO => exact HO2.out); (case aR => exact (Kd.R_reads' HV2.out).2.2); (case aF => exact fun _ _ => trivial); (case aB => exact HB2.out); (case aS => exact HB2.out.size); (case aL => have := HML.out; have := HUL.out; omega); intro v3 w3 ho3 hb3 hg3 hat3; have HO3 := Aside0.mk ho3; have HB3 := Aside0.mk hb3; clear ho3 hb3 hg3 hat3)
        go_roundw
        case rel => exact ⟨k + 1, HLT.out, by go_num, ⟨by rw [HTS.out, many_app]; simpa [many] using HO3.out⟩, ⟨HB3.out⟩⟩
        case measure => have := HLT.out; simp [intOf]; omega
      · have u1 : decide ((k : Int) < (xs.length : Int)) = false := decide_eq_false (by omega)
        have u2 : decide (k < xs.length) = false := decide_eq_false hlt
        obtain rfl : k = xs.length := by omega
        rw [List.take_length] at HO
        obtain ⟨A5, c5, rfl⟩ := Kd.R_slice HO.out
        have hred := Kd.R_reads' HO.out
        have HRED := Aside0.mk hred
        have HLM := Aside0.mk (many_len HX0.out)
        clear hred HO hk hlt
        go_wp2
        go_loopw [3, 28] (fun v i wr2 => ∃ (k : Nat) (A2 : Option Addr) (c2 : Nat), k ≤ xs.length ∧ i = .int .i64 (k : Int) ∧ v = .slice A2 (many (xs.drop k)).length c2 ∧ Aside0 ((many (xs.drop k)).length ≤ c2) ∧ Aside0 ((Kd.int .u8).C wr2 A2 (many (xs.drop k)).length (many (xs.drop k))) ∧ Aside0 (Below w.heap.size w wr2)) (fun _ i _ => xs.length - (intOf i).toNat)
        case atStart => exact ⟨0, A5, c5, by omega, rfl, rfl, ⟨HRED.out.2.1⟩, ⟨HRED.out.2.2⟩, ⟨HB.out⟩⟩
        case round =>
          obtain ⟨k, A2, c2, hk, rfl, rfl, HC2, HM, HB2⟩ := hrel
          clear HB HRED
          by_cases hlt : k < xs.length
          · have u3 : decide ((k : Int) < (xs.length : Int)) = true := decide_eq_true (by omega)
            have u4 : decide (k < xs.length) = true := decide_eq_true hlt
            obtain ⟨ad, e, hx⟩ := Kd.at_int (Kd.C_below HR0.out HB2.out) (k : Int) (by omega) (by omega)
            cases e
            rw [Int.toNat_natCast] at hx
            have HXR := Aside0.mk (HRD.out k hlt)
            have hdc := drop_cons hlt
            generalize rd xs (k : Int) = x at *
            have hms : many (xs.drop k) = uv x.toNat ++ many (xs.drop (k + 1)) := by rw [hdc]; rfl
            obtain ⟨u, hu⟩ : ∃ u, usz x.toNat = u := ⟨_, rfl⟩
            have hu1 : 1 ≤ u := by rw [← hu]; exact (usz_spec _).1
            have hgu : gu (many (xs.drop k)) = (x, (u : Int), 0) := by
              rw [hms, gu_uv (by have := HXR.out; omega), hu]
              congr 1
              have := HXR.out; omega
            have hml : (many (xs.drop k)).length = u + (many (xs.drop (k + 1))).length := by rw [hms, List.length_append, ← hu]; rfl
            have hmd : (many (xs.drop k)).drop u = many (xs.drop (k + 1)) := by rw [hms]; exact List.drop_left' (by rw [← hu]; rfl)
            obtain ⟨A3, cutR, hA3, hcR⟩ := cut_rest (A := A2) (l := many (xs.drop k)) (c := c2) (a := u) HC2.out (by omega)
            have HG := Aside0.mk (getUint_calls (W := _) rfl HM.out HC2.out (many_bytes _))
            have HS := Aside0.mk (fun w5 => size_calls x HXR.out.1 HXR.out.2 w5)
            have HA3 := Aside0.mk (show ∀ w', Below wr.heap.size wr w' → _ from fun w' hb => hA3 w' (Kd.C_below HM.out hb))
            rw [hgu] at HG
            rw [hu] at HS
            rw [hmd] at HA3 hcR
            obtain ⟨n1, hn1⟩ : ∃ n1, (many (xs.drop k)).length = n1 := ⟨_, rfl⟩
            have HBD := Aside0.mk (show n1 ≤ 2000 from by
              have h1 := many_len (a := xs.drop k) (fun x hx => HX0.out x (List.mem_of_mem_drop hx))
              have h2 : (xs.drop k).length ≤ 200 := by rw [List.length_drop]; have := HL.out; omega
              omega)
            have HN := Aside0.mk (show n1 - u = (many (xs.drop (k + 1))).length by omega)
            rw [hn1] at cutR HG
            have q1 : decide ((u : Int) < 1) = false := decide_eq_false (by omega)
            have q2 : decide (u < 1) = false := decide_eq_false (by omega)
            have q3 : decide ((n1 : Int) < (u : Int)) = false := decide_eq_false (by omega)
            have q4 : decide (n1 < u) = false := decide_eq_false (by omega)
            have q5 : (x == x) = true := by simp
            have q6 : (x != x) = false := by simp
            have q7 : ((u : Int) == (u : Int)) = true := by simp
            have q8 : ((u : Int) != (u : Int)) = false := by simp
            have p1 : (0 ≤ (k : Int)) = True := eq_true (by omega)
            have p2 : ((k : Int) < (xs.length : Int)) = True := eq_true (by omega)
            have hmax : (k : Int) + 1 ≤ 9223372036854775807 := by omega
            have HLT := Aside0.mk hlt
            have HCR := Aside0.mk hcR
            rw [hn1]
            clear hdc hms hu hu1 hgu hml hmd hA3 hn1 hlt hk hcR HM HC2
            go_wp2_with fail
            refine HG.out.mono ?_
            rintro e w3 ⟨rfl, b3⟩
            go_wp2_with fail
            refine (HS.out _).mono ?_
            rintro e w4 ⟨rfl, b4⟩
            have HB4 := Aside0.mk (below_step b3 b4)
            clear b3 b4
            go_wp2
            go_roundw
            case rel =>
              refine ⟨k + 1, A3, c2 - u, HLT.out, by go_num, by rw [HN.out], ⟨HCR.out⟩, ⟨HA3.out _ HB4.out⟩, ⟨below_step HB2.out HB4.out⟩⟩
            case measure => have := HLT.out; simp [intOf]; omega
          · have u3 : decide ((k : Int) < (xs.length : Int)) = false := decide_eq_false (by omega)
            have u4 : decide (k < xs.length) = false := decide_eq_false hlt
            obtain rfl : k = xs.length := by omega
            rw [show (many (xs.drop xs.length)).length = 0 by rw [List.drop_length]; rfl]
            go_wp2_with fail
            refine (alive1_calls _).mono ?_
            rintro e w3 ⟨rfl, b3⟩
            go_wp2
            go_ret
            exact ⟨by first | rfl | simp, below_step HB2.out b3⟩
end Go.Proofs.Ytkngkjgapgnmbaa.Wr
