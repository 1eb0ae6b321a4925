import Derived.Test.YtamnnaadnjkdiaaRdA
import Derived.Deep.QuietTactic
import Derived.BigQuiet
import Derived.WalkSmall
namespace Go.Proofs.Ytamnnaadnjkdiaa.Rd
open Go.RowKit Go.Proofs.YtamnnaadnjkdiaaW.PrintWords Go.Proofs.YtamnnaadnjkdiaaW.PrintLast Go.Proofs.YtamnnaadnjkdiaaW.PrintMore Go.Proofs.Ytamnnaadnjkdiaa.Wire
set_option linter.unusedVariables false
set_option linter.unusedSimpArgs false
set_option maxRecDepth 100000

section
variable {W : World} {g : Nat} {A : Option Addr} {n c a : Nat} {o : Bool}
theorem live_calls (h : At W g A n c a o) : Calls Try.prog 50 #[.pointer (some ⟨g, 0, none⟩)] W fun e w' => e = .returned (.bool o) ∧ W = w' := by
  have c2 : W.cell? ⟨g, 2, none⟩ = some (.bool o) := (blk_cell h 2).trans rfl
  clear h
  go_enter Try.func50, Try.ntmps50
  go_wp2
  go_ret
  exact ⟨rfl, rfl⟩
theorem live_nil (W : World) : Calls Try.prog 50 #[.pointer none] W fun e w' => e = .returned (.bool false) ∧ W = w' := by
  go_enter Try.func50, Try.ntmps50
  go_wp2
  go_ret
  exact ⟨rfl, rfl⟩
theorem must_fine (h : At W g A n c a o) (ok : Bool) (er : Int) (hf : o = false ∨ ok = true ∨ er = 0) : Calls Try.prog 18 #[.pointer (some ⟨g, 0, none⟩), .bool ok, .int .i64 er] W fun e w' => e = .returned (.tuple #[]) ∧ W = w' := by
  have HL := Aside0.mk (live_calls h)
  clear h
  cases o with
  | false =>
    clear hf
    go_enter Try.func18, Try.ntmps18
    go_wp2_with (go_at_call 50; refine HL.out.mono ?_; rintro e w' ⟨rfl, rfl⟩)
    go_end0
    exact ⟨rfl, rfl⟩
  | true =>
    cases ok with
    | true =>
      clear hf
      go_enter Try.func18, Try.ntmps18
      go_wp2_with (go_at_call 50; refine HL.out.mono ?_; rintro e w' ⟨rfl, rfl⟩)
      go_end0
      exact ⟨rfl, rfl⟩
    | false =>
      have e0 : er = 0 := hf.resolve_left (by simp) |>.resolve_left (by simp)
      subst e0
      clear hf
      go_enter Try.func18, Try.ntmps18
      go_wp2_with (go_at_call 50; refine HL.out.mono ?_; rintro e w' ⟨rfl, rfl⟩)
      go_end0
      exact ⟨rfl, rfl⟩
theorem must_nil (W : World) (ok : Bool) (er : Int) : Calls Try.prog 18 #[.pointer none, .bool ok, .int .i64 er] W fun e w' => e = .returned (.tuple #[]) ∧ W = w' := by
  go_enter Try.func18, Try.ntmps18
  go_wp2_with (go_at_call 50; refine (live_nil _).mono ?_; rintro e w' ⟨rfl, rfl⟩)
  go_end0
  exact ⟨rfl, rfl⟩
theorem must_ends (h : At W g A n c a true) (er : Int) (he : er ≠ 0) : Calls Try.prog 18 #[.pointer (some ⟨g, 0, none⟩), .bool false, .int .i64 er] W fun e w' => e = .panicked [ends g er] ∧ W = w' := by
  have HL := Aside0.mk (live_calls h)
  have t1 : (er != 0) = true := bne_iff_ne.mpr he
  have t2 : (er == 0) = false := beq_eq_false_iff_ne.mpr he
  clear h he
  go_enter Try.func18, Try.ntmps18
  go_wp2_with (go_at_call 50; refine HL.out.mono ?_; rintro e w' ⟨rfl, rfl⟩)
  (try simp only [Exit.inBlock, Exit.then])
  exact ⟨rfl, rfl, rfl⟩
theorem at_calls (h : At W g A n c a o) : Calls Try.prog 22 #[.pointer (some ⟨g, 0, none⟩)] W fun e w' => e = .returned (.int .i64 (if o = true then (a : Int) else 0)) ∧ W = w' := by
  have HL := Aside0.mk (live_calls h)
  have c1 : W.cell? ⟨g, 1, none⟩ = some (.int .i64 (a : Int)) := (blk_cell h 1).trans rfl
  clear h
  cases o with
  | true =>
    go_enter Try.func22, Try.ntmps22
    go_wp2_with (go_at_call 50; refine HL.out.mono ?_; rintro e w' ⟨rfl, rfl⟩)
    go_ret
    exact ⟨by simp, rfl⟩
  | false =>
    go_enter Try.func22, Try.ntmps22
    go_wp2_with (go_at_call 50; refine HL.out.mono ?_; rintro e w' ⟨rfl, rfl⟩)
    go_ret
    exact ⟨by simp, rfl⟩
theorem at_nil (W : World) : Calls Try.prog 22 #[.pointer none] W fun e w' => e = .returned (.int .i64 0) ∧ W = w' := by
  go_enter Try.func22, Try.ntmps22
  go_wp2_with (go_at_call 50; refine (live_nil _).mono ?_; rintro e w' ⟨rfl, rfl⟩)
  go_ret
  exact ⟨rfl, rfl⟩
theorem left_calls (h : At W g A n c a true) (ha : a ≤ n) (hn : n ≤ 9223372036854775807) : Calls Try.prog 21 #[.pointer (some ⟨g, 0, none⟩)] W fun e w' => e = .returned (.int .i64 ((n - a : Nat) : Int)) ∧ ∃ m, w' = W.drewN m := by
  have HL := Aside0.mk (live_calls h)
  have c0 : W.cell? ⟨g, 0, none⟩ = some (.slice A n c) := (blk_cell h 0).trans rfl
  have c1 : W.cell? ⟨g, 1, none⟩ = some (.int .i64 (a : Int)) := (blk_cell h 1).trans rfl
  clear h
  have HE := Aside0.mk (show ((n - a : Nat) : Int) = (n : Int) - (a : Int) by omega)
  go_enter Try.func21, Try.ntmps21
  go_wp2_with (go_at_call 50; refine HL.out.mono ?_; rintro e w' ⟨rfl, rfl⟩)
  go_quiet (fail)
  go_wp2
  go_ret
  exact ⟨by rw [HE.out]; rfl, _, rfl⟩
theorem left_closed (h : At W g A n c a false) : Calls Try.prog 21 #[.pointer (some ⟨g, 0, none⟩)] W fun e w' => e = .returned (.int .i64 0) ∧ W = w' := by
  have HL := Aside0.mk (live_calls h)
  clear h
  go_enter Try.func21, Try.ntmps21
  go_wp2_with (go_at_call 50; refine HL.out.mono ?_; rintro e w' ⟨rfl, rfl⟩)
  go_ret
  exact ⟨rfl, rfl⟩
theorem left_nil (W : World) : Calls Try.prog 21 #[.pointer none] W fun e w' => e = .returned (.int .i64 0) ∧ W = w' := by
  go_enter Try.func21, Try.ntmps21
  go_wp2_with (go_at_call 50; refine (live_nil _).mono ?_; rintro e w' ⟨rfl, rfl⟩)
  go_ret
  exact ⟨rfl, rfl⟩
theorem take_calls (h : At W g A n c a true) (k : Nat) (hk : a + k ≤ 9223372036854775807) : Calls Try.prog 51 #[.pointer (some ⟨g, 0, none⟩), .int .i64 (k : Int), .int .i64 0] W fun e w' => e = .returned (.tuple #[]) ∧ w' = W.setCell ⟨g, 1, none⟩ (.int .i64 ((a + k : Nat) : Int)) := by
  have HM := Aside0.mk (must_fine h true 0 (.inr (.inl rfl)))
  have c1 : W.cell? ⟨g, 1, none⟩ = some (.int .i64 (a : Int)) := (blk_cell h 1).trans rfl
  have f1 := blk_frozen h 1
  clear h
  go_enter Try.func51, Try.ntmps51
  go_wp2_with (go_at_call 18; refine HM.out.mono ?_; rintro e w' ⟨rfl, rfl⟩)
  go_end0
  exact ⟨rfl, by simp⟩
theorem take_ends (h : At W g A n c a true) (k : Int) (er : Int) (he : er ≠ 0) : Calls Try.prog 51 #[.pointer (some ⟨g, 0, none⟩), .int .i64 k, .int .i64 er] W fun e w' => e = .panicked [ends g er] ∧ W = w' := by
  have HM := Aside0.mk (must_ends h er he)
  have t2 : (er == 0) = false := beq_eq_false_iff_ne.mpr he
  clear h he
  go_enter Try.func51, Try.ntmps51
  go_wp2_with (go_at_call 18; refine HM.out.mono ?_; rintro e w' ⟨rfl, rfl⟩)
  (try simp only [Exit.inBlock, Exit.then])
  exact ⟨rfl, rfl, rfl⟩
theorem byte_calls {l : List Int} (h : At W g A l.length c a true) (hC : (Kd.int .u8).C W A l.length l) (ha : a < l.length) : Calls Try.prog 17 #[.pointer (some ⟨g, 0, none⟩)] W fun e w' => e = .returned (.int .u8 (rd l (a : Int))) ∧ ∃ m, w' = (W.drewN m).setCell ⟨g, 1, none⟩ (.int .i64 ((a + 1 : Nat) : Int)) := by
  have hn : l.length ≤ 9223372036854775807 := hC.2.1
  have HL := Aside0.mk (live_calls h)
  have HF := Aside0.mk (left_calls h (Nat.le_of_lt ha) hn)
  have HX := Aside0.mk (show ∀ m, Calls Try.prog 18 #[.pointer (some ⟨g, 0, none⟩), .bool true, .int .i64 5] (W.drewN m) _ from fun m => must_fine (h.drewN m) true 5 (.inr (.inl rfl)))
  have HT := Aside0.mk (show ∀ m, Calls Try.prog 51 #[.pointer (some ⟨g, 0, none⟩), .int .i64 ((1 : Nat) : Int), .int .i64 0] (W.drewN m) _ from fun m => take_calls (h.drewN m) 1 (by omega))
  have c0 : W.cell? ⟨g, 0, none⟩ = some (.slice A l.length c) := (blk_cell h 0).trans rfl
  have c1 : W.cell? ⟨g, 1, none⟩ = some (.int .i64 (a : Int)) := (blk_cell h 1).trans rfl
  obtain ⟨ad, e, hx⟩ := Kd.at_int hC (a : Int) (by omega) (by omega)
  subst e
  rw [Int.toNat_natCast] at hx
  have hp : 0 < l.length - a := by omega
  have t0 : decide ((0 : Int) < ((l.length - a : Nat) : Int)) = true := decide_eq_true (by omega)
  have t1 : decide (0 < l.length - a) = true := decide_eq_true hp
  have p1 : (0 ≤ (a : Int)) = True := eq_true (by omega)
  have p2 : ((a : Int) < (l.length : Int)) = True := eq_true (by omega)
  have p3 : (a < l.length) = True := eq_true ha
  clear h hC ha hn hp
  generalize hK : l.length - a = K at *
  clear hK
  go_enter Try.func17, Try.ntmps17
  go_wp2_with (first | (go_at_call 50; refine HL.out.mono ?_; rintro e w' ⟨rfl, rfl⟩) | (go_at_call 21; refine HF.out.mono ?_; rintro e w' ⟨rfl, m, rfl⟩) | (go_at_call 18; refine (HX.out _).mono ?_; rintro e w' ⟨rfl, rfl⟩))
  go_quiet (fail)
  go_wp2_with (go_at_call 51; refine (HT.out _).mono ?_; rintro e w' ⟨rfl, rfl⟩)
  go_ret
  exact ⟨rfl, _, rfl⟩
theorem byte_ends {l : List Int} (h : At W g A l.length c l.length true) (hn : l.length ≤ 9223372036854775807) : Calls Try.prog 17 #[.pointer (some ⟨g, 0, none⟩)] W fun e w' => e = .panicked [ends g 5] ∧ ∃ m, w' = W.drewN m := by
  have HL := Aside0.mk (live_calls h)
  have HF := Aside0.mk (left_calls h (Nat.le_refl _) hn)
  have HX := Aside0.mk (show ∀ m, Calls Try.prog 18 #[.pointer (some ⟨g, 0, none⟩), .bool false, .int .i64 5] (W.drewN m) _ from fun m => must_ends (h.drewN m) 5 (by decide))
  rw [Nat.sub_self] at HF
  clear h hn
  go_enter Try.func17, Try.ntmps17
  go_wp2_with (first | (go_at_call 50; refine HL.out.mono ?_; rintro e w' ⟨rfl, rfl⟩) | (go_at_call 21; refine HF.out.mono ?_; rintro e w' ⟨rfl, m, rfl⟩) | (go_at_call 18; refine (HX.out _).mono ?_; rintro e w' ⟨rfl, rfl⟩))
  (try simp only [Exit.inBlock, Exit.then])
  exact ⟨rfl, rfl, _, rfl⟩
theorem byte_closed (h : At W g A n c a false) : Calls Try.prog 17 #[.pointer (some ⟨g, 0, none⟩)] W fun e w' => e = .returned (.int .u8 0) ∧ W = w' := by
  have HL := Aside0.mk (live_calls h)
  clear h
  go_enter Try.func17, Try.ntmps17
  go_wp2_with (go_at_call 50; refine HL.out.mono ?_; rintro e w' ⟨rfl, rfl⟩)
  go_ret
  exact ⟨rfl, rfl⟩
theorem byte_nil (W : World) : Calls Try.prog 17 #[.pointer none] W fun e w' => e = .returned (.int .u8 0) ∧ W = w' := by
  go_enter Try.func17, Try.ntmps17
  go_wp2_with (go_at_call 50; refine (live_nil _).mono ?_; rintro e w' ⟨rfl, rfl⟩)
  go_ret
  exact ⟨rfl, rfl⟩
end
end Go.Proofs.Ytamnnaadnjkdiaa.Rd
