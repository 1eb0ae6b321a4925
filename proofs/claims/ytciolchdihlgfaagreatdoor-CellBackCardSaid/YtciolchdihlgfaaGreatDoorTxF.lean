import Derived.Test.YtciolchdihlgfaaGreatDoorTxA
import Derived.Test.YtciolchdihlgfaaGreatDoorSht
import Derived.Lib.ConvBytes
import Derived.Lib.Walk
import Derived.Lib.Hide
/-! strconv.ParseUint at base 16. -/
namespace Go.Proofs.YtciolchdihlgfaaGreatDoor.Tx
open Go.RowKit Go.Proofs.YtciolchdihlgfaaGreatDoorW.PrintWords Go.Proofs.YtciolchdihlgfaaGreatDoorW.PrintLast Go.Proofs.YtciolchdihlgfaaGreatDoorW.PrintMore Go.Proofs.YtciolchdihlgfaaGreatDoor.Wire Go.Proofs.YtciolchdihlgfaaGreatDoor.PCo Go.Proofs.YtciolchdihlgfaaGreatDoor.Co Go.Proofs.YtciolchdihlgfaaGreatDoor.Ce Go.Proofs.YtciolchdihlgfaaGreatDoor.Num
set_option linter.unusedVariables false
set_option linter.unusedSimpArgs false
set_option maxRecDepth 100000
set_option maxHeartbeats 4000000
theorem low_or' : ∀ c : Fin 256, bits .or .u8 (c.val : Int) 32 = ((UInt8.ofNat c.val ||| 32).toNat : Int) := by decide +kernel
theorem low_or (c : UInt8) : bits .or .u8 (c.toNat : Int) 32 = ((c ||| 32).toNat : Int) := by
  have := low_or' ⟨c.toNat, c.toNat_lt⟩
  rw [UInt8.ofNat_toNat] at this
  exact this
theorem iparse16 (t : ByteArray) (hmax : t.size ≤ 9223372036854775806) (w : World) :
    Calls Tryz.prog 144 #[.string t, .int .i64 16, .int .i64 64] w fun e w' => e = .returned (Lib.uintTuple 222 (parseX0 t.data.toList)) ∧ Below w.heap.size w w' := by
  by_cases h0 : t.size = 0
  · obtain rfl := size_zero h0
    go_enter Tryz.func144, Tryz.ntmps144
    go_wp2_with fail
    go_ret2
    exact ⟨rfl, Below.refl _ _⟩
  have hne := ne_empty h0
  have t1 : (t.toList != ([] : List UInt8)) = true := bne_iff_ne.mpr hne
  have t2 : (t.toList == ([] : List UInt8)) = false := beq_eq_false_iff_ne.mpr hne
  have t3 : t.toList.isEmpty = false := by cases h : t.toList with | nil => exact absurd h hne | cons => rfl
  have hcv := Lib.run_convert_string_bytes (P := Tryz.prog) w 9 172 5 t (u := .string) Tryz.underlying9 Tryz.underlying172 Tryz.underlying5
  have hB : ∀ j, j < t.size → (Lib.bytesWorld w 5 t).cell? ⟨w.heap.size, j, none⟩ = some (.int .u8 (t.data.toList.getD j 0).toNat) := fun j hj => Lib.bytesWorld_cell w 5 t j hj
  have HB := Aside0.mk (Lib.bytesWorld_below w 5 t)
  obtain ⟨W1, hW1⟩ : ∃ W1, W1 = Lib.bytesWorld w 5 t := ⟨_, rfl⟩
  rw [← hW1] at hcv hB HB
  clear hW1
  obtain ⟨bs, hL⟩ : ∃ bs, bs = t.data.toList := ⟨_, rfl⟩
  have hLn : bs.length = t.size := by rw [hL, data_length]
  rw [← hL] at hB ⊢
  have hp0 : parseX0 bs = parseX 0 bs := if_neg (fun e => by rw [e] at hLn; simp at hLn; omega)
  rw [hp0]
  clear hL hp0 h0 hne
  have hmv : IntKind.u64.wrap (IntKind.u64.wrap 18446744073709551616 - 1) = 18446744073709551615 := by
    rw [IntKind.wrap_u64, IntKind.wrap_u64]
    decide
  go_enter Tryz.func144, Tryz.ntmps144
  go_wp2_with fail
  go_loop [12, 13, 101] (fun vu vn vi => ∃ (k acc : Nat) (a : Int), vu = .bool false ∧ vn = .int .u64 a ∧ vi = .int .i64 k ∧ k ≤ t.size ∧ Aside0 (a = (acc : Int) ∧ acc < 18446744073709551616 ∧ parseX 0 bs = parseX acc (bs.drop k)))
    (fun _ _ vi => t.size - (intOf vi).toNat)
  case atStart => exact ⟨0, 0, 0, rfl, rfl, rfl, by omega, ⟨rfl, by omega, rfl⟩⟩
  case round =>
    obtain ⟨k, acc, a, rfl, rfl, rfl, hk, hh⟩ := hrel
    obtain ⟨ha, hacc, hdec⟩ := hh.out
    clear hh
    have a0 : 0 ≤ a := by omega
    have a1 : a < 18446744073709551616 := by omega
    by_cases hkn : k < t.size
    · have hc := hB k hkn
      have hdrop : bs.drop k = bs[k]'(by omega) :: bs.drop (k + 1) := List.drop_eq_getElem_cons (by omega)
      have hget : bs.getD k 0 = bs[k]'(by omega) := by simp [List.getD, List.getElem?_eq_getElem (show k < bs.length by omega)]
      rw [hdrop] at hdec
      rw [hget] at hc
      generalize bs[k]'(by omega) = c at hc hdec
      have hc256 : c.toNat < 256 := c.toNat_lt
      clear hB hdrop hget
      by_cases h95 : c = 95
      · subst h95
        have hstep : parseX acc (95 :: bs.drop (k + 1)) = .syntax := by rw [parseX]; rfl
        rw [hstep] at hdec
        have HD := Aside0.mk hdec
        have HLO := Aside0.mk (fun (W : World) => (Tryz.internal_strconv_lower 95 W).mono (R' := fun e w' => e = .returned (.int .u8 127) ∧ w' = W) (by rintro e w' ⟨rfl, rfl⟩; exact ⟨rfl, rfl⟩))
        rw [show (((95 : UInt8).toNat : Nat) : Int) = 95 from rfl] at hc
        clear hstep hdec ha hacc hc256
        go_wp2_with (go_at_call 170; refine (HLO.out _).mono ?_; rintro e w' ⟨rfl, rfl⟩)
        go_ret2
        exact ⟨by rw [HD.out]; rfl, HB.out⟩
      have hlow := low_or c
      have hl256 := (c ||| 32).toNat_lt
      obtain ⟨C, hC⟩ : ∃ C : Nat, c.toNat = C := ⟨_, rfl⟩
      obtain ⟨L, hL⟩ : ∃ L : Nat, (c ||| 32).toNat = L := ⟨_, rfl⟩
      have hhv : hv c = if 48 ≤ C ∧ C ≤ 57 then some (C - 48) else if 97 ≤ L ∧ L ≤ 122 then some (L - 97 + 10) else none := by unfold hv; rw [hC, hL]
      rw [hC] at hc hc256 hlow
      rw [hL] at hlow hl256
      have hstep : parseX acc (c :: bs.drop (k + 1)) = match hv c with
        | none => .syntax
        | some d => if 16 ≤ d then .syntax else if 1152921504606846976 ≤ acc then .range else parseX (acc * 16 + d) (bs.drop (k + 1)) := by rw [parseX]; cases hv c <;> rfl
      rw [hstep, hhv] at hdec
      have n95 : ¬ (C : Int) = 95 := fun e => h95 (UInt8.toNat_inj.mp (by rw [hC]; show C = 95; omega))
      clear hstep hhv hC hL h95
      have HLO := Aside0.mk (fun (W : World) => (Tryz.internal_strconv_lower (C : Int) W).mono (R' := fun e w' => e = .returned (.int .u8 (L : Int)) ∧ w' = W) (by rintro e w' ⟨rfl, rfl⟩; rw [hlow]; exact ⟨rfl, rfl⟩))
      clear hlow
      by_cases hd : 48 ≤ C ∧ C ≤ 57
      · rw [if_pos hd] at hdec
        simp only at hdec
        rw [if_neg (show ¬ 16 ≤ C - 48 by omega)] at hdec
        obtain ⟨d0, d1⟩ := hd
        by_cases hcut : 1152921504606846976 ≤ acc
        · rw [if_pos hcut] at hdec
          have HD := Aside0.mk hdec
          have icut : 1152921504606846976 ≤ a := by omega
          clear hcut hacc hdec ha HLO
          go_wp2_with fail
          go_ret2
          exact ⟨by rw [HD.out]; rfl, HB.out⟩
        · rw [if_neg hcut] at hdec
          have icut : a < 1152921504606846976 := by omega
          have HN := Aside0.mk (show a * 16 + ((C : Int) - 48) = ((acc * 16 + (C - 48) : Nat) : Int) ∧ acc * 16 + (C - 48) < 18446744073709551616 ∧ parseX 0 bs = parseX (acc * 16 + (C - 48)) (bs.drop (k + 1)) from ⟨by omega, by omega, hdec⟩)
          clear hcut hacc hdec ha HLO
          go_wp2_with fail
          go_round
          case rel => exact ⟨k + 1, _, _, rfl, rfl, by go_num, by omega, HN⟩
          case measure => simp [intOf]; omega
      rw [if_neg hd] at hdec
      by_cases hle : 97 ≤ L ∧ L ≤ 122
      · rw [if_pos hle] at hdec
        simp only at hdec
        obtain ⟨l0, l1⟩ := hle
        have hd' : C < 48 ∨ 57 < C := by omega
        clear hd
        by_cases h16 : 16 ≤ L - 97 + 10
        · rw [if_pos h16] at hdec
          have HD := Aside0.mk hdec
          have g16 : 103 ≤ L := by omega
          clear hdec ha hacc
          rcases hd' with hd' | hd'
          all_goals
            go_wp2_with (go_at_call 170; refine (HLO.out _).mono ?_; rintro e w' ⟨rfl, rfl⟩)
            go_ret2
            exact ⟨by rw [HD.out]; rfl, HB.out⟩
        · rw [if_neg h16] at hdec
          have g16 : L < 103 := by omega
          clear h16
          by_cases hcut : 1152921504606846976 ≤ acc
          · rw [if_pos hcut] at hdec
            have HD := Aside0.mk hdec
            have icut : 1152921504606846976 ≤ a := by omega
            clear hcut hacc hdec ha
            rcases hd' with hd' | hd'
            all_goals
              go_wp2_with (go_at_call 170; refine (HLO.out _).mono ?_; rintro e w' ⟨rfl, rfl⟩)
              go_ret2
              exact ⟨by rw [HD.out]; rfl, HB.out⟩
          · rw [if_neg hcut] at hdec
            have icut : a < 1152921504606846976 := by omega
            have HN := Aside0.mk (show a * 16 + ((L : Int) - 97 + 10) = ((acc * 16 + (L - 97 + 10) : Nat) : Int) ∧ acc * 16 + (L - 97 + 10) < 18446744073709551616 ∧ parseX 0 bs = parseX (acc * 16 + (L - 97 + 10)) (bs.drop (k + 1)) from ⟨by omega, by omega, hdec⟩)
            clear hcut hacc hdec ha
            rcases hd' with hd' | hd'
            all_goals
              go_wp2_with (go_at_call 170; refine (HLO.out _).mono ?_; rintro e w' ⟨rfl, rfl⟩)
              go_round
              case rel => exact ⟨k + 1, _, _, rfl, rfl, by go_num, by omega, HN⟩
              case measure => simp [intOf]; omega
      · rw [if_neg hle] at hdec
        have HD := Aside0.mk hdec
        have hd' : C < 48 ∨ 57 < C := by omega
        have hl' : L < 97 ∨ 122 < L := by omega
        clear hdec ha hacc hd hle
        rcases hl' with hl' | hl' <;> rcases hd' with hd' | hd'
        all_goals
          go_wp2_with (go_at_call 170; refine (HLO.out _).mono ?_; rintro e w' ⟨rfl, rfl⟩)
          go_ret2
          exact ⟨by rw [HD.out]; rfl, HB.out⟩
    · have hkk : k = t.size := by omega
      subst hkk
      have hF : parseX acc (bs.drop t.size) = .ok acc := by rw [List.drop_eq_nil_of_le (by omega)]; rfl
      rw [hF] at hdec
      subst ha
      have HD := Aside0.mk hdec
      clear hacc hF a0 a1 hdec
      go_wp2_with fail
      go_ret2
      exact ⟨by rw [HD.out]; rfl, HB.out⟩
end Go.Proofs.YtciolchdihlgfaaGreatDoor.Tx
