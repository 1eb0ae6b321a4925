import Derived.Test.YtciolchdihlgfaaGreatDoorTxF
import Derived.Test.YtciolchdihlgfaaGreatDoorTxE
import Derived.Test.YtciolchdihlgfaaGreatDoorCoAC
/-! Cell: read. -/
namespace Go.Proofs.YtciolchdihlgfaaGreatDoor.Tx
open Go.RowKit Go.Proofs.YtciolchdihlgfaaGreatDoorW.PrintWords Go.Proofs.YtciolchdihlgfaaGreatDoorW.PrintLast Go.Proofs.YtciolchdihlgfaaGreatDoorW.PrintMore Go.Proofs.YtciolchdihlgfaaGreatDoor.Wire Go.Proofs.YtciolchdihlgfaaGreatDoor.PCo Go.Proofs.YtciolchdihlgfaaGreatDoor.Co Go.Proofs.YtciolchdihlgfaaGreatDoor.Ce Go.Proofs.YtciolchdihlgfaaGreatDoor.Num
set_option linter.unusedVariables false
set_option linter.unusedSimpArgs false
set_option maxRecDepth 100000
set_option maxHeartbeats 4000000
/-- The two errors of strconv lie in their variables. -/
structure ErrW (w : World) : Prop where
  syn : ∃ t p, w.var? Tryz.prog "strconv.ErrSyntax" = some #[.iface t p]
  rng : ∃ t p, w.var? Tryz.prog "strconv.ErrRange" = some #[.iface t p]
theorem var_below {w w' : World} {n : String} {g : Nat} {x : Array Value} (hg : Tryz.prog.globalNamed n = some g) (h : w.var? Tryz.prog n = some x) (hb : Below w.heap.size w w') : w'.var? Tryz.prog n = some x := by
  unfold World.var? at h ⊢
  rw [hg] at h ⊢
  simp only [Option.bind_some] at h ⊢
  have hlt : g < w.heap.size := by
    apply Decidable.byContradiction
    intro hc
    rw [Array.getElem?_eq_none (by omega)] at h
    cases h
  rw [hb.block _ hlt]
  exact h
theorem ErrW.below {w w' : World} (h : ErrW w) (hb : Below w.heap.size w w') : ErrW w' := by
  obtain ⟨⟨t1, p1, h1⟩, t2, p2, h2⟩ := h
  exact ⟨⟨t1, p1, var_below (g := 6) (by kernel_rfl) h1 hb⟩, t2, p2, var_below (g := 7) (by kernel_rfl) h2 hb⟩
/-- An error, or none. -/
def Err (x : Bool) (v : Value) : Prop := if x then v = .nilIface else ∃ t p, v = .iface t p
theorem pint_calls (s : ByteArray) (hs : s.size ≤ 2000000) (w : World) (hE : ErrW w) : Calls Tryz.prog 114 #[.string s, .int .i64 10, .int .i64 64] w fun e w' => ∃ (v : Int) (er : Value), e = .returned (.tuple #[.int .i64 v, er]) ∧ (match Lib.parseIntB 64 s.data.toList with | .ok x => v = x ∧ er = .nilIface | _ => ∃ t p, er = .iface t p) ∧ Below w.heap.size w w' := by
  obtain ⟨⟨t1, p1, h1⟩, t2, p2, h2⟩ := hE
  cases hp : Lib.parseIntB 64 s.data.toList with
  | ok v =>
    refine (Tryz.strconv_ParseInt_10_at64_ok s (by omega) v hp w).mono ?_
    rintro e w' ⟨rfl, hw⟩
    refine ⟨v, _, rfl, ⟨rfl, rfl⟩, ?_⟩
    rcases hw with rfl | ⟨t, rfl⟩
    · exact Below.refl _ _
    · exact Lib.bytesWorld_below _ _ _
  | range =>
    refine (Tryz.strconv_ParseInt_10_at64_range_var s (by omega) hp t2 p2 w h2).mono ?_
    rintro e w' ⟨N, rfl, -, -, hb⟩
    exact ⟨_, _, rfl, ⟨_, _, rfl⟩, hb⟩
  | _ =>
    refine (Tryz.strconv_ParseInt_10_at64_syntax_var s (by omega) hp t1 p1 w h1).mono ?_
    rintro e w' ⟨N, rfl, -, -, hb⟩
    exact ⟨_, _, rfl, ⟨_, _, rfl⟩, hb⟩
theorem puint_calls (s : ByteArray) (hs : s.size ≤ 2000000) (w : World) (hE : ErrW w) : Calls Tryz.prog 115 #[.string s, .int .i64 10, .int .i64 64] w fun e w' => ∃ (v : Int) (er : Value), e = .returned (.tuple #[.int .u64 v, er]) ∧ (match Lib.parseUintB 64 s.data.toList with | .ok x => v = (x : Int) ∧ er = .nilIface | _ => ∃ t p, er = .iface t p) ∧ Below w.heap.size w w' := by
  obtain ⟨⟨t1, p1, h1⟩, t2, p2, h2⟩ := hE
  cases hp : Lib.parseUintB 64 s.data.toList with
  | ok v =>
    refine (Tryz.strconv_ParseUint_10_at64_ok s (by omega) v hp w).mono ?_
    rintro e w' ⟨rfl, hw⟩
    refine ⟨v, _, rfl, ⟨rfl, rfl⟩, ?_⟩
    rcases hw with rfl | rfl
    · exact Below.refl _ _
    · exact Lib.bytesWorld_below _ _ _
  | range =>
    refine (Tryz.strconv_ParseUint_10_at64_range_var s (by omega) hp t2 p2 w h2).mono ?_
    rintro e w' ⟨N, rfl, -, -, hb⟩
    exact ⟨_, _, rfl, ⟨_, _, rfl⟩, hb⟩
  | _ =>
    refine (Tryz.strconv_ParseUint_10_at64_syntax_var s (by omega) hp t1 p1 w h1).mono ?_
    rintro e w' ⟨N, rfl, -, -, hb⟩
    exact ⟨_, _, rfl, ⟨_, _, rfl⟩, hb⟩
theorem puint16_calls (s : ByteArray) (hs : s.size ≤ 2000000) (w : World) (hE : ErrW w) : Calls Tryz.prog 115 #[.string s, .int .i64 16, .int .i64 64] w fun e w' => ∃ (v : Int) (er : Value), e = .returned (.tuple #[.int .u64 v, er]) ∧ (match parseX0 s.data.toList with | .ok x => v = (x : Int) ∧ er = .nilIface | _ => ∃ t p, er = .iface t p) ∧ Below w.heap.size w w' := by
  have HI := Aside0.mk (iparse16 s (by omega) w)
  cases hp : parseX0 s.data.toList with
  | ok v =>
    rw [hp] at HI
    have HI := Aside0.mk (show Calls Tryz.prog 144 #[.string s, .int .i64 16, .int .i64 64] w fun e w' => e = .returned (.tuple #[.int .u64 v, .nilIface]) ∧ Below w.heap.size w w' from HI.out)
    go_enter Tryz.func115, Tryz.ntmps115
    go_wp2_with fail
    refine HI.out.mono ?_
    rintro e w1 ⟨rfl, hb⟩
    have HB := Aside0.mk hb
    clear hb
    go_wp2_with fail
    go_ret2
    exact ⟨_, _, rfl, ⟨rfl, rfl⟩, HB.out⟩
  | range =>
    rw [hp] at HI
    have HI := Aside0.mk (show Calls Tryz.prog 144 #[.string s, .int .i64 16, .int .i64 64] w fun e w' => e = .returned (.tuple #[.int .u64 18446744073709551615, .iface 222 (.int .i64 1)]) ∧ Below w.heap.size w w' from HI.out)
    obtain ⟨⟨t1, p1, h1⟩, t2, p2, h2⟩ := hE
    have HV := Aside0.mk (fun (W : World) (hb : Below w.heap.size w W) => (Tryz.strconv_toError_range ⟨#[80, 97, 114, 115, 101, 85, 105, 110, 116]⟩ s 16 64 (.iface t2 p2) W (by omega) (by have h0 := World.var?_cell (g := 7) (by kernel_rfl) (var_below (g := 7) (by kernel_rfl) h2 hb) 0; simpa using h0) (Or.inr ⟨_, _, rfl⟩)))
    clear h1 h2 hp
    go_enter Tryz.func115, Tryz.ntmps115
    go_wp2_with fail
    refine HI.out.mono ?_
    rintro e w1 ⟨rfl, hb⟩
    have HB := Aside0.mk hb
    clear hb
    go_wp2_with fail
    refine (HV.out _ HB.out).mono ?_
    rintro e w2 ⟨N, rfl, -, -, hb⟩
    have HB2 := Aside0.mk (below_step HB.out hb)
    clear hb
    go_wp2_with fail
    go_ret2
    exact ⟨_, _, rfl, ⟨_, _, rfl⟩, HB2.out⟩
  | _ =>
    rw [hp] at HI
    have HI := Aside0.mk (show Calls Tryz.prog 144 #[.string s, .int .i64 16, .int .i64 64] w fun e w' => e = .returned (.tuple #[.int .u64 0, .iface 222 (.int .i64 2)]) ∧ Below w.heap.size w w' from HI.out)
    obtain ⟨⟨t1, p1, h1⟩, t2, p2, h2⟩ := hE
    have HV := Aside0.mk (fun (W : World) (hb : Below w.heap.size w W) => (Tryz.strconv_toError_syntax ⟨#[80, 97, 114, 115, 101, 85, 105, 110, 116]⟩ s 16 64 (.iface t1 p1) W (by omega) (by have h0 := World.var?_cell (g := 6) (by kernel_rfl) (var_below (g := 6) (by kernel_rfl) h1 hb) 0; simpa using h0) (Or.inr ⟨_, _, rfl⟩)))
    clear h1 h2 hp
    go_enter Tryz.func115, Tryz.ntmps115
    go_wp2_with fail
    refine HI.out.mono ?_
    rintro e w1 ⟨rfl, hb⟩
    have HB := Aside0.mk hb
    clear hb
    go_wp2_with fail
    refine (HV.out _ HB.out).mono ?_
    rintro e w2 ⟨N, rfl, -, -, hb⟩
    have HB2 := Aside0.mk (below_step HB.out hb)
    clear hb
    go_wp2_with fail
    go_ret2
    exact ⟨_, _, rfl, ⟨_, _, rfl⟩, HB2.out⟩
end Go.Proofs.YtciolchdihlgfaaGreatDoor.Tx
