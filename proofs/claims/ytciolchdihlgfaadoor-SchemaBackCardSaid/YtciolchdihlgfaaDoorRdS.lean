import Derived.Test.YtciolchdihlgfaaDoorWMore
import Derived.Test.YtciolchdihlgfaaDoorWireSpec2
import Derived.Recover
import Derived.Defers
import Derived.Outline
import Derived.Test.YtciolchdihlgfaaDoorProg
import Derived.Deep.QuietTactic
import Derived.BigQuiet
import Derived.WalkSmall
import Derived.Deep.RegionWith
import Derived.Deep.RegionHeld3
import Derived.StillTailTactics
import Derived.RegionTactic
import Derived.ChangeAlike
import Derived.BigRegion
import Derived.LaidEqlPtr
import Derived.Test.YtciolchdihlgfaaDoorGSc
namespace Go.Proofs.YtciolchdihlgfaaDoor.Rd
open Go.RowKit Go.Proofs.YtciolchdihlgfaaDoorW.PrintWords Go.Proofs.YtciolchdihlgfaaDoorW.PrintLast Go.Proofs.YtciolchdihlgfaaDoorW.PrintMore Go.Proofs.YtciolchdihlgfaaDoor.Wire
set_option linter.unusedVariables false
set_option linter.unusedSimpArgs false

/-! ### What a call keeps -/
/-- All but the blocks of S stands; new ones may have come. -/
structure Kp (S : Nat → Prop) (w w' : World) : Prop where
  os : w'.os = w.os
  tape : w'.tape = w.tape
  output : w'.output = w.output
  size : w.heap.size ≤ w'.heap.size
  block : ∀ k, k < w.heap.size → ¬ S k → w'.heap[k]? = w.heap[k]?
namespace Kp
variable {S S' S2 : Nat → Prop} {w W W2 : World}
theorem refl (S : Nat → Prop) (w : World) : Kp S w w := ⟨rfl, rfl, rfl, Nat.le_refl _, fun _ _ _ => rfl⟩
theorem of_below (h : Below w.heap.size w W) (S : Nat → Prop) : Kp S w W := ⟨h.os, h.tape, h.output, h.size, fun k hk _ => h.block k hk⟩
theorem mono (h : Kp S w W) (hs : ∀ k, S k → S' k) : Kp S' w W := ⟨h.os, h.tape, h.output, h.size, fun k hk hn => h.block k hk (fun z => hn (hs k z))⟩
theorem then_ (h : Kp S w W) (k : Kp S2 W W2) (hs : ∀ k, S2 k → S k ∨ w.heap.size ≤ k) : Kp S w W2 :=
  ⟨k.os.trans h.os, k.tape.trans h.tape, k.output.trans h.output, Nat.le_trans h.size k.size,
   fun i hi hn => (k.block i (Nat.lt_of_lt_of_le hi h.size) (fun z => (hs i z).elim hn (fun y => by omega))).trans (h.block i hi hn)⟩
theorem trans (h : Kp S w W) (k : Kp S W W2) : Kp S w W2 := h.then_ k (fun _ z => .inl z)
theorem below (h : Kp S w W) (k : Below W.heap.size W W2) : Kp S w W2 := h.then_ (Kp.of_below k (fun _ => False)) (fun _ z => z.elim)
theorem alloc (h : Kp S w W) (o : Obj) : Kp S w (W.alloc o) := h.below (below_alloc (Below.refl _ _) o)
theorem drew (h : Kp S w W) : Kp S w W.drew := ⟨h.os, h.tape, h.output, h.size, h.block⟩
theorem drewN (h : Kp S w W) (n : Nat) : Kp S w (W.drewN n) := ⟨h.os, h.tape, h.output, h.size, h.block⟩
theorem setCell (h : Kp S w W) {p : Addr} (hp : S p.block ∨ w.heap.size ≤ p.block) (u : Value) : Kp S w (W.setCell p u) :=
  h.then_ (S2 := fun k => k = p.block) ⟨rfl, rfl, rfl, by simp [World.setCell], fun i _ hn => Below.heap_setCell W p u i hn⟩ (fun k hk => by rw [hk]; exact hp)
theorem to_below (h : Kp S w W) {w0 : World} (hb : Below w0.heap.size w0 w) (hs : ∀ k, S k → w0.heap.size ≤ k) : Below w0.heap.size w0 W :=
  ⟨h.os.trans hb.os, h.tape.trans hb.tape, h.output.trans hb.output, Nat.le_trans hb.size h.size, fun i hi => (h.block i (Nat.lt_of_lt_of_le hi hb.size) (fun z => by have := hs i z; omega)).trans (hb.block i hi)⟩
theorem kept (h : Kp S w W) : Kept w W S := ⟨h.size, h.block⟩
theorem blk (h : Kp S w W) {g : Nat} {o : Obj} (hb : w.heap[g]? = some o) (hn : ¬ S g) : W.heap[g]? = some o := (h.block g (blk_lt hb) hn).trans hb
theorem cell (h : Kp S w W) {a : Addr} {v : Value} (hc : w.cell? a = some v) (hn : ¬ S a.block) : W.cell? a = some v := cell_kept hc h.kept hn
/-- A row that is read, and is none of what is written. -/
theorem row {k : IntKind} {A : Option Addr} {n : Nat} {xs : List Int} (h : Kp S w W) (hc : (Kd.int k).C w A n xs) (hf : ∀ ad, A = some ad → 0 < n → ¬ S ad.block) : (Kd.int k).C W A n xs := by
  have hr := Kd.reads_of_C (enc := Value.int k) (d := (0 : Int)) (h1 := fun _ => rfl) hc
  refine Kd.C_of_reads (d := (0 : Int)) (h1 := fun _ => rfl) ⟨hr.1, hr.2.1, fun hn => ?_⟩
  obtain ⟨ad, e, hcell⟩ := hr.2.2 hn
  exact ⟨ad, e, fun j hj => h.cell (hcell j hj) (by rw [add_block]; exact hf ad e hn)⟩
end Kp

/-! ### A reader -/
/-- The reader's cells, at block g. -/
def At (W : World) (g : Nat) (A : Option Addr) (n c at_ : Nat) (o : Bool) : Prop :=
  W.heap[g]? = some (.cells #[.slice A n c, .int .i64 (at_ : Int), .bool o] 78 (0, 0))
/-- By what a reader ends. -/
def ends (g : Nat) (e : Int) : PanicEntry := { v := .iface 80 (.agg #[.pointer (some ⟨g, 0, none⟩), .int .i64 e]), recovered := false }
theorem At.keep {W W' : World} {g : Nat} {A : Option Addr} {n c a : Nat} {o : Bool} (h : At W g A n c a o) {S : Nat → Prop} (hk : Kp S W W') (hn : ¬ S g) : At W' g A n c a o := hk.blk h hn
theorem At.below {W W' : World} {g : Nat} {A : Option Addr} {n c a : Nat} {o : Bool} (h : At W g A n c a o) (hb : Below W.heap.size W W') : At W' g A n c a o := blk_below h hb
theorem At.drewN {W : World} {g : Nat} {A : Option Addr} {n c a : Nat} {o : Bool} (h : At W g A n c a o) (m : Nat) : At (W.drewN m) g A n c a o := h
theorem At.set {W : World} {g : Nat} {A : Option Addr} {n c a : Nat} {o : Bool} (h : At W g A n c a o) (b : Nat) : At (W.setCell ⟨g, 1, none⟩ (.int .i64 (b : Int))) g A n c b o := blk_put h 1 _ rfl
theorem At.close {W : World} {g : Nat} {A : Option Addr} {n c a : Nat} {o : Bool} (h : At W g A n c a o) : At (W.setCell ⟨g, 2, none⟩ (.bool false)) g A n c a false := blk_put h 2 _ rfl
/-- A row of bytes lies in none of a reader's cells. -/
theorem At.far {W : World} {g : Nat} {A A2 : Option Addr} {n c a n2 : Nat} {o : Bool} {l : List Int} (h : At W g A n c a o) (hc : (Kd.int .u8).C W A2 n2 l) : ∀ ad, A2 = some ad → 0 < n2 → ad.block ≠ g := by
  intro ad e hn hb
  obtain ⟨ad', e', hx⟩ := Kd.at_int hc 0 (Int.le_refl 0) (by omega)
  have : ad' = ad := Option.some.inj (e'.symm.trans e)
  subst this
  obtain ⟨bk, off, sp⟩ := ad'
  dsimp only at hb
  subst hb
  have hr : W.cell? ⟨bk, off, sp⟩ = some (.int .u8 (rd l 0)) := by rw [← hx]; simp [Addr.add]
  cases sp with
  | some q =>
    have hnone : W.cell? ⟨bk, off, some q⟩ = none := by unfold World.cell?; split <;> simp
    rw [hnone] at hr; cases hr
  | none =>
    rw [blk_cell h off] at hr
    rcases off with _ | _ | _ | k <;> simp at hr
end Go.Proofs.YtciolchdihlgfaaDoor.Rd
namespace Go.Proofs.YtciolchdihlgfaaDoor.Rd
open Go.RowKit Go.Proofs.YtciolchdihlgfaaDoorW.PrintWords Go.Proofs.YtciolchdihlgfaaDoorW.PrintLast Go.Proofs.YtciolchdihlgfaaDoorW.PrintMore Go.Proofs.YtciolchdihlgfaaDoor.Wire
set_option linter.unusedVariables false
set_option linter.unusedSimpArgs false
set_option maxRecDepth 100000

section
variable {W : World} {g : Nat} {A : Option Addr} {n c a : Nat} {o : Bool}
theorem live_calls (h : At W g A n c a o) : Calls Tryd.prog 40 #[.pointer (some ⟨g, 0, none⟩)] W fun e w' => e = .returned (.bool o) ∧ W = w' := by
  have c2 : W.cell? ⟨g, 2, none⟩ = some (.bool o) := (blk_cell h 2).trans rfl
  clear h
  go_enter Tryd.func40, Tryd.ntmps40
  go_wp2
  go_ret
  exact ⟨rfl, rfl⟩
theorem live_nil (W : World) : Calls Tryd.prog 40 #[.pointer none] W fun e w' => e = .returned (.bool false) ∧ W = w' := by
  go_enter Tryd.func40, Tryd.ntmps40
  go_wp2
  go_ret
  exact ⟨rfl, rfl⟩
theorem must_fine (h : At W g A n c a o) (ok : Bool) (er : Int) (hf : o = false ∨ ok = true ∨ er = 0) : Calls Tryd.prog 20 #[.pointer (some ⟨g, 0, none⟩), .bool ok, .int .i64 er] W fun e w' => e = .returned (.tuple #[]) ∧ W = w' := by
  have HL := Aside0.mk (live_calls h)
  clear h
  cases o with
  | false =>
    clear hf
    go_enter Tryd.func20, Tryd.ntmps20
    go_wp2_with (go_at_call 40; refine HL.out.mono ?_; rintro e w' ⟨rfl, rfl⟩)
    go_end0
    exact ⟨rfl, rfl⟩
  | true =>
    cases ok with
    | true =>
      clear hf
      go_enter Tryd.func20, Tryd.ntmps20
      go_wp2_with (go_at_call 40; refine HL.out.mono ?_; rintro e w' ⟨rfl, rfl⟩)
      go_end0
      exact ⟨rfl, rfl⟩
    | false =>
      have e0 : er = 0 := hf.resolve_left (by simp) |>.resolve_left (by simp)
      subst e0
      clear hf
      go_enter Tryd.func20, Tryd.ntmps20
      go_wp2_with (go_at_call 40; refine HL.out.mono ?_; rintro e w' ⟨rfl, rfl⟩)
      go_end0
      exact ⟨rfl, rfl⟩
theorem must_nil (W : World) (ok : Bool) (er : Int) : Calls Tryd.prog 20 #[.pointer none, .bool ok, .int .i64 er] W fun e w' => e = .returned (.tuple #[]) ∧ W = w' := by
  go_enter Tryd.func20, Tryd.ntmps20
  go_wp2_with (go_at_call 40; refine (live_nil _).mono ?_; rintro e w' ⟨rfl, rfl⟩)
  go_end0
  exact ⟨rfl, rfl⟩
theorem must_ends (h : At W g A n c a true) (er : Int) (he : er ≠ 0) : Calls Tryd.prog 20 #[.pointer (some ⟨g, 0, none⟩), .bool false, .int .i64 er] W fun e w' => e = .panicked [ends g er] ∧ W = w' := by
  have HL := Aside0.mk (live_calls h)
  have t1 : (er != 0) = true := bne_iff_ne.mpr he
  have t2 : (er == 0) = false := beq_eq_false_iff_ne.mpr he
  clear h he
  go_enter Tryd.func20, Tryd.ntmps20
  go_wp2_with (go_at_call 40; refine HL.out.mono ?_; rintro e w' ⟨rfl, rfl⟩)
  (try simp only [Exit.inBlock, Exit.then])
  exact ⟨rfl, rfl, rfl⟩
theorem left_calls (h : At W g A n c a true) (ha : a ≤ n) (hn : n ≤ 9223372036854775807) : Calls Tryd.prog 45 #[.pointer (some ⟨g, 0, none⟩)] W fun e w' => e = .returned (.int .i64 ((n - a : Nat) : Int)) ∧ ∃ m, w' = W.drewN m := by
  have HL := Aside0.mk (live_calls h)
  have c0 : W.cell? ⟨g, 0, none⟩ = some (.slice A n c) := (blk_cell h 0).trans rfl
  have c1 : W.cell? ⟨g, 1, none⟩ = some (.int .i64 (a : Int)) := (blk_cell h 1).trans rfl
  clear h
  have HE := Aside0.mk (show ((n - a : Nat) : Int) = (n : Int) - (a : Int) by omega)
  go_enter Tryd.func45, Tryd.ntmps45
  go_wp2_with (go_at_call 40; refine HL.out.mono ?_; rintro e w' ⟨rfl, rfl⟩)
  go_quiet (fail)
  go_wp2
  go_ret
  exact ⟨by rw [HE.out]; rfl, _, rfl⟩
theorem left_closed (h : At W g A n c a false) : Calls Tryd.prog 45 #[.pointer (some ⟨g, 0, none⟩)] W fun e w' => e = .returned (.int .i64 0) ∧ W = w' := by
  have HL := Aside0.mk (live_calls h)
  clear h
  go_enter Tryd.func45, Tryd.ntmps45
  go_wp2_with (go_at_call 40; refine HL.out.mono ?_; rintro e w' ⟨rfl, rfl⟩)
  go_ret
  exact ⟨rfl, rfl⟩
theorem left_nil (W : World) : Calls Tryd.prog 45 #[.pointer none] W fun e w' => e = .returned (.int .i64 0) ∧ W = w' := by
  go_enter Tryd.func45, Tryd.ntmps45
  go_wp2_with (go_at_call 40; refine (live_nil _).mono ?_; rintro e w' ⟨rfl, rfl⟩)
  go_ret
  exact ⟨rfl, rfl⟩
theorem take_calls (h : At W g A n c a true) (k : Nat) (hk : a + k ≤ 9223372036854775807) : Calls Tryd.prog 42 #[.pointer (some ⟨g, 0, none⟩), .int .i64 (k : Int), .int .i64 0] W fun e w' => e = .returned (.tuple #[]) ∧ w' = W.setCell ⟨g, 1, none⟩ (.int .i64 ((a + k : Nat) : Int)) := by
  have HM := Aside0.mk (must_fine h true 0 (.inr (.inl rfl)))
  have c1 : W.cell? ⟨g, 1, none⟩ = some (.int .i64 (a : Int)) := (blk_cell h 1).trans rfl
  have f1 := blk_frozen h 1
  clear h
  go_enter Tryd.func42, Tryd.ntmps42
  go_wp2_with (go_at_call 20; refine HM.out.mono ?_; rintro e w' ⟨rfl, rfl⟩)
  go_end0
  exact ⟨rfl, by simp⟩
theorem take_ends (h : At W g A n c a true) (k : Int) (er : Int) (he : er ≠ 0) : Calls Tryd.prog 42 #[.pointer (some ⟨g, 0, none⟩), .int .i64 k, .int .i64 er] W fun e w' => e = .panicked [ends g er] ∧ W = w' := by
  have HM := Aside0.mk (must_ends h er he)
  have t2 : (er == 0) = false := beq_eq_false_iff_ne.mpr he
  clear h he
  go_enter Tryd.func42, Tryd.ntmps42
  go_wp2_with (go_at_call 20; refine HM.out.mono ?_; rintro e w' ⟨rfl, rfl⟩)
  (try simp only [Exit.inBlock, Exit.then])
  exact ⟨rfl, rfl, rfl⟩
theorem byte_calls {l : List Int} (h : At W g A l.length c a true) (hC : (Kd.int .u8).C W A l.length l) (ha : a < l.length) : Calls Tryd.prog 23 #[.pointer (some ⟨g, 0, none⟩)] W fun e w' => e = .returned (.int .u8 (rd l (a : Int))) ∧ ∃ m, w' = (W.drewN m).setCell ⟨g, 1, none⟩ (.int .i64 ((a + 1 : Nat) : Int)) := by
  have hn : l.length ≤ 9223372036854775807 := hC.2.1
  have HL := Aside0.mk (live_calls h)
  have HF := Aside0.mk (left_calls h (Nat.le_of_lt ha) hn)
  have HX := Aside0.mk (show ∀ m, Calls Tryd.prog 20 #[.pointer (some ⟨g, 0, none⟩), .bool true, .int .i64 5] (W.drewN m) _ from fun m => must_fine (h.drewN m) true 5 (.inr (.inl rfl)))
  have HT := Aside0.mk (show ∀ m, Calls Tryd.prog 42 #[.pointer (some ⟨g, 0, none⟩), .int .i64 ((1 : Nat) : Int), .int .i64 0] (W.drewN m) _ from fun m => take_calls (h.drewN m) 1 (by omega))
  have c0 : W.cell? ⟨g, 0, none⟩ = some (.slice A l.length c) := (blk_cell h 0).trans rfl
  have c1 : W.cell? ⟨g, 1, none⟩ = some (.int .i64 (a : Int)) := (blk_cell h 1).trans rfl
  obtain ⟨ad, e, hx⟩ := Kd.at_int hC (a : Int) (by omega) (by omega)
  subst e
  rw [Int.toNat_natCast] at hx
  have hp : 0 < l.length - a := by omega
  have t0 : decide ((0 : Int) < ((l.length - a : Nat) : Int)) = true := decide_eq_true (by omega)
  have t1 : decide (0 < l.length - a) = true := decide_eq_true hp
  have p1 : (0 ≤ (a : Int)) = True := eq_true (by omega)
  have p2 : ((a : Int) < (l.length : Int)) = True := eq_true (by omega)
  have p3 : (a < l.length) = True := eq_true ha
  clear h hC ha hn hp
  generalize hK : l.length - a = K at *
  clear hK
  go_enter Tryd.func23, Tryd.ntmps23
  go_wp2_with (first | (go_at_call 40; refine HL.out.mono ?_; rintro e w' ⟨rfl, rfl⟩) | (go_at_call 45; refine HF.out.mono ?_; rintro e w' ⟨rfl, m, rfl⟩) | (go_at_call 20; refine (HX.out _).mono ?_; rintro e w' ⟨rfl, rfl⟩))
  go_quiet (fail)
  go_wp2_with (go_at_call 42; refine (HT.out _).mono ?_; rintro e w' ⟨rfl, rfl⟩)
  go_ret
  exact ⟨rfl, _, rfl⟩
theorem byte_ends {l : List Int} (h : At W g A l.length c l.length true) (hn : l.length ≤ 9223372036854775807) : Calls Tryd.prog 23 #[.pointer (some ⟨g, 0, none⟩)] W fun e w' => e = .panicked [ends g 5] ∧ ∃ m, w' = W.drewN m := by
  have HL := Aside0.mk (live_calls h)
  have HF := Aside0.mk (left_calls h (Nat.le_refl _) hn)
  have HX := Aside0.mk (show ∀ m, Calls Tryd.prog 20 #[.pointer (some ⟨g, 0, none⟩), .bool false, .int .i64 5] (W.drewN m) _ from fun m => must_ends (h.drewN m) 5 (by decide))
  rw [Nat.sub_self] at HF
  clear h hn
  go_enter Tryd.func23, Tryd.ntmps23
  go_wp2_with (first | (go_at_call 40; refine HL.out.mono ?_; rintro e w' ⟨rfl, rfl⟩) | (go_at_call 45; refine HF.out.mono ?_; rintro e w' ⟨rfl, m, rfl⟩) | (go_at_call 20; refine (HX.out _).mono ?_; rintro e w' ⟨rfl, rfl⟩))
  (try simp only [Exit.inBlock, Exit.then])
  exact ⟨rfl, rfl, _, rfl⟩
theorem byte_closed (h : At W g A n c a false) : Calls Tryd.prog 23 #[.pointer (some ⟨g, 0, none⟩)] W fun e w' => e = .returned (.int .u8 0) ∧ W = w' := by
  have HL := Aside0.mk (live_calls h)
  clear h
  go_enter Tryd.func23, Tryd.ntmps23
  go_wp2_with (go_at_call 40; refine HL.out.mono ?_; rintro e w' ⟨rfl, rfl⟩)
  go_ret
  exact ⟨rfl, rfl⟩
theorem byte_nil (W : World) : Calls Tryd.prog 23 #[.pointer none] W fun e w' => e = .returned (.int .u8 0) ∧ W = w' := by
  go_enter Tryd.func23, Tryd.ntmps23
  go_wp2_with (go_at_call 40; refine (live_nil _).mono ?_; rintro e w' ⟨rfl, rfl⟩)
  go_ret
  exact ⟨rfl, rfl⟩
end
end Go.Proofs.YtciolchdihlgfaaDoor.Rd

namespace Go.Proofs.YtciolchdihlgfaaDoor.Rd
open Go.RowKit Go.Proofs.YtciolchdihlgfaaDoorW.PrintWords Go.Proofs.YtciolchdihlgfaaDoorW.PrintLast Go.Proofs.YtciolchdihlgfaaDoorW.PrintMore Go.Proofs.YtciolchdihlgfaaDoor.Wire Go.Proofs.YtciolchdihlgfaaDoor.PSc Go.Proofs.YtciolchdihlgfaaDoor.ScG
set_option linter.unusedVariables false
set_option linter.unusedSimpArgs false
set_option maxRecDepth 100000

theorem info8 : (Tryd.prog.info? 5).map (fun i => (i.zero, i.size, i.bytes)) = some (some (.int .u8 0), 1, 1) := by kernel_rfl
/-- The rest of a reader's bytes, as the code cuts them. -/
theorem cut_rest {W : World} {A : Option Addr} {l : List Int} {c a : Nat} (hC : (Kd.int .u8).C W A l.length l) (hc : l.length ≤ c) (ha : a ≤ l.length) :
    ∃ A1 : Option Addr, (∀ w : World, (Instr.slice 22 (.slice A l.length c) (some (.int .i64 (a : Int))) none none).run Tryd.prog w = .ok (.slice A1 (l.length - a) (c - a)) w) ∧
      (∀ w : World, (Kd.int .u8).C w A l.length l → (Kd.int .u8).C w A1 (l.drop a).length (l.drop a)) ∧ (l.drop a).length ≤ c - a := by
  obtain ⟨i0, hi0, _, hsz0, _⟩ := info_parts info8
  obtain ⟨A1, h1, h2, h3⟩ := print_drop_of (P := Tryd.prog) (Value.int .u8) 0 22 5 .i64 Tryd.underlying22 hi0 hsz0 A c l (a : Int) (by omega) (by omega) hc
  simp only [Int.toNat_natCast] at h1 h2 h3
  refine ⟨A1, fun w => ?_, fun w hw => Kd.C_of_reads (h1 := fun _ => rfl) (h2 w (Kd.reads_of_C hw)), h3⟩
  rw [h1 w, List.length_drop]
theorem getUint_calls {W : World} {A1 : Option Addr} {l : List Int} {n c : Nat} (hn : l.length = n) (hC : (Kd.int .u8).C W A1 l.length l) (hc : l.length ≤ c) (hb : Bytes l) :
    Calls Tryd.prog 41 #[.slice A1 n c] W fun e w' => e = .returned (.tuple #[.int .u64 (gu l).1, .int .i64 (gu l).2.1, .int .i64 (gu l).2.2]) ∧ Below W.heap.size W w' := by
  subst hn
  exact wire_GetUint.calls 12 A1 c l _ _ _ W hC hc (getUint l hb 12 (by decide))
theorem getBytes_calls {W : World} {A1 : Option Addr} {l : List Int} {n c : Nat} (hn : l.length = n) (hC : (Kd.int .u8).C W A1 l.length l) (hc : l.length ≤ c) (hb : Bytes l) (hl : l.length ≤ 140737488351232) (m : Int) (hm : m ≤ 9223372036854775807) :
    Calls Tryd.prog 43 #[.slice A1 n c, .int .i64 m] W fun e w' => ∃ v : Value, e = .returned (.tuple #[v, .int .i64 (gb l m).2.1, .int .i64 (gb l m).2.2]) ∧ Kd.R (Kd.int .u8) 5 w' W.heap.size (fun _ => True) v (gb l m).1 ∧ Below W.heap.size W w' := by
  subst hn
  exact wire_GetBytes.calls 12 A1 c l m _ _ _ W hC hc (getBytes l hb hl m hm 12 (by decide))

section
variable {W : World} {g : Nat} {A : Option Addr} {n c a : Nat} {o : Bool}
set_option maxHeartbeats 2000000 in
theorem uint_calls {l : List Int} (h : At W g A l.length c a true) (hC : (Kd.int .u8).C W A l.length l) (hc : l.length ≤ c) (ha : a ≤ l.length) (hb : Bytes l) (most : Int) (x : Int) (k : Nat) (hg : gu (l.drop a) = (x, (k : Int), 0)) (hx : x ≤ most) (hk : a + k ≤ 9223372036854775807) :
    Calls Tryd.prog 19 #[.pointer (some ⟨g, 0, none⟩), .int .u64 most] W fun e w' => e = .returned (.int .u64 x) ∧ ∃ w1, Below W.heap.size W w1 ∧ w' = w1.setCell ⟨g, 1, none⟩ (.int .i64 ((a + k : Nat) : Int)) := by
  have HL := Aside0.mk (live_calls h)
  obtain ⟨A1, hcut, hA1, hc1⟩ := cut_rest (W := W) hC hc ha
  have HG := Aside0.mk (show ∀ m, Calls Tryd.prog 41 #[.slice A1 (l.length - a) (c - a)] (W.drewN m) _ from fun m => getUint_calls (l := l.drop a) List.length_drop (hA1 _ (Kd.C_drewN hC m)) hc1 (hb.drop a))
  have HT := Aside0.mk (show ∀ w1, Below W.heap.size W w1 → Calls Tryd.prog 42 #[.pointer (some ⟨g, 0, none⟩), .int .i64 (k : Int), .int .i64 0] w1 _ from fun w1 hw => take_calls (h.below hw) k hk)
  have c0 : W.cell? ⟨g, 0, none⟩ = some (.slice A l.length c) := (blk_cell h 0).trans rfl
  have c1 : W.cell? ⟨g, 1, none⟩ = some (.int .i64 (a : Int)) := (blk_cell h 1).trans rfl
  have t1 : decide (most < x) = false := decide_eq_false (by omega)
  rw [hg] at HG
  generalize l.length - a = n1 at *
  clear h hC hc ha hb hg hx hk hA1 hc1
  go_enter Tryd.func19, Tryd.ntmps19
  go_wp2_with (go_at_call 40; refine HL.out.mono ?_; rintro e w' ⟨rfl, rfl⟩)
  go_region_with (go_at_call 41; refine (HG.out _).mono ?_; rintro e w1 ⟨rfl, hb1⟩)
  all_goals
    have HB := Aside0.mk (show Below W.heap.size W w1 from ⟨hb1.os, hb1.tape, hb1.output, hb1.size, hb1.block⟩)
    clear hb1 HG
    go_wp2_with (go_at_call 42; refine (HT.out _ HB.out).mono ?_; rintro e w' ⟨rfl, rfl⟩)
    go_ret
    exact ⟨rfl, _, HB.out, rfl⟩
set_option maxHeartbeats 2000000 in
theorem uint_ends {l : List Int} (h : At W g A l.length c a true) (hC : (Kd.int .u8).C W A l.length l) (hc : l.length ≤ c) (ha : a ≤ l.length) (hb : Bytes l) (most : Int) (x k er : Int) (hg : gu (l.drop a) = (x, k, er)) (he : er ≠ 0 ∨ most < x) :
    Calls Tryd.prog 19 #[.pointer (some ⟨g, 0, none⟩), .int .u64 most] W fun e w' => e = .panicked [ends g (if er = 0 then 3 else er)] ∧ Below W.heap.size W w' := by
  have HL := Aside0.mk (live_calls h)
  obtain ⟨A1, hcut, hA1, hc1⟩ := cut_rest (W := W) hC hc ha
  have HG := Aside0.mk (show ∀ m, Calls Tryd.prog 41 #[.slice A1 (l.length - a) (c - a)] (W.drewN m) _ from fun m => getUint_calls (l := l.drop a) List.length_drop (hA1 _ (Kd.C_drewN hC m)) hc1 (hb.drop a))
  have HT := Aside0.mk (show ∀ er, er ≠ 0 → ∀ w1, Below W.heap.size W w1 → Calls Tryd.prog 42 #[.pointer (some ⟨g, 0, none⟩), .int .i64 k, .int .i64 er] w1 _ from fun er he w1 hw => take_ends (h.below hw) k er he)
  have c0 : W.cell? ⟨g, 0, none⟩ = some (.slice A l.length c) := (blk_cell h 0).trans rfl
  have c1 : W.cell? ⟨g, 1, none⟩ = some (.int .i64 (a : Int)) := (blk_cell h 1).trans rfl
  rw [hg] at HG
  generalize l.length - a = n1 at *
  clear h hC hc ha hb hg hA1 hc1
  by_cases h0 : er = 0
  · subst h0
    have t1 : decide (most < x) = true := decide_eq_true (he.resolve_left (by simp))
    clear he
    go_enter Tryd.func19, Tryd.ntmps19
    go_wp2_with (go_at_call 40; refine HL.out.mono ?_; rintro e w' ⟨rfl, rfl⟩)
    go_region_with (go_at_call 41; refine (HG.out _).mono ?_; rintro e w1 ⟨rfl, hb1⟩)
    all_goals
      have HB := Aside0.mk (show Below W.heap.size W w1 from ⟨hb1.os, hb1.tape, hb1.output, hb1.size, hb1.block⟩)
      clear hb1 HG
      go_wp2_with (go_at_call 42; refine (HT.out 3 (by decide) _ HB.out).mono ?_; rintro e w' ⟨rfl, rfl⟩)
      (try simp only [Exit.inBlock, Exit.then])
      exact ⟨rfl, rfl, HB.out⟩
  · have t1 : (er == 0) = false := beq_eq_false_iff_ne.mpr h0
    have H0 := Aside0.mk h0
    clear he
    rw [if_neg h0]
    clear h0
    go_enter Tryd.func19, Tryd.ntmps19
    go_wp2_with (go_at_call 40; refine HL.out.mono ?_; rintro e w' ⟨rfl, rfl⟩)
    go_region_with (go_at_call 41; refine (HG.out _).mono ?_; rintro e w1 ⟨rfl, hb1⟩)
    all_goals
      have HB := Aside0.mk (show Below W.heap.size W w1 from ⟨hb1.os, hb1.tape, hb1.output, hb1.size, hb1.block⟩)
      clear hb1 HG
      go_wp2_with (go_at_call 42; refine (HT.out _ H0.out _ HB.out).mono ?_; rintro e w' ⟨rfl, rfl⟩)
      (try simp only [Exit.inBlock, Exit.then])
      exact ⟨rfl, rfl, HB.out⟩
theorem uint_closed (h : At W g A n c a false) (most : Int) : Calls Tryd.prog 19 #[.pointer (some ⟨g, 0, none⟩), .int .u64 most] W fun e w' => e = .returned (.int .u64 0) ∧ W = w' := by
  have HL := Aside0.mk (live_calls h)
  clear h
  go_enter Tryd.func19, Tryd.ntmps19
  go_wp2_with (go_at_call 40; refine HL.out.mono ?_; rintro e w' ⟨rfl, rfl⟩)
  go_ret
  exact ⟨rfl, rfl⟩
theorem uint_nil (W : World) (most : Int) : Calls Tryd.prog 19 #[.pointer none, .int .u64 most] W fun e w' => e = .returned (.int .u64 0) ∧ W = w' := by
  go_enter Tryd.func19, Tryd.ntmps19
  go_wp2_with (go_at_call 40; refine (live_nil _).mono ?_; rintro e w' ⟨rfl, rfl⟩)
  go_ret
  exact ⟨rfl, rfl⟩
end
end Go.Proofs.YtciolchdihlgfaaDoor.Rd
namespace Go.Proofs.YtciolchdihlgfaaDoor.Rd
open Go.RowKit Go.Proofs.YtciolchdihlgfaaDoorW.PrintWords Go.Proofs.YtciolchdihlgfaaDoorW.PrintLast Go.Proofs.YtciolchdihlgfaaDoorW.PrintMore Go.Proofs.YtciolchdihlgfaaDoor.Wire Go.Proofs.YtciolchdihlgfaaDoor.PSc Go.Proofs.YtciolchdihlgfaaDoor.ScG
set_option linter.unusedVariables false
set_option linter.unusedSimpArgs false
set_option maxRecDepth 100000

section
variable {W : World} {g : Nat} {A : Option Addr} {n c a : Nat} {o : Bool}
set_option maxHeartbeats 2000000 in
theorem bytes_calls {l : List Int} (h : At W g A l.length c a true) (hC : (Kd.int .u8).C W A l.length l) (hc : l.length ≤ c) (ha : a ≤ l.length) (hb : Bytes l) (hl : l.length ≤ 140737488351232) (most : Int) (hm : most ≤ 9223372036854775807) (p : List Int) (k : Nat) (hg : gb (l.drop a) most = (p, (k : Int), 0)) (hk : a + k ≤ 9223372036854775807) :
    Calls Tryd.prog 21 #[.pointer (some ⟨g, 0, none⟩), .int .i64 most] W fun e w' => ∃ v w1, e = .returned v ∧ Kd.R (Kd.int .u8) 5 w1 W.heap.size (fun _ => True) v p ∧ Below W.heap.size W w1 ∧ w' = w1.setCell ⟨g, 1, none⟩ (.int .i64 ((a + k : Nat) : Int)) := by
  have HL := Aside0.mk (live_calls h)
  obtain ⟨A1, hcut, hA1, hc1⟩ := cut_rest (W := W) hC hc ha
  have HG := Aside0.mk (show ∀ m, Calls Tryd.prog 43 #[.slice A1 (l.length - a) (c - a), .int .i64 most] (W.drewN m) _ from fun m => getBytes_calls (l := l.drop a) List.length_drop (hA1 _ (Kd.C_drewN hC m)) hc1 (hb.drop a) (by rw [List.length_drop]; omega) most hm)
  have HT := Aside0.mk (show ∀ w1, Below W.heap.size W w1 → Calls Tryd.prog 42 #[.pointer (some ⟨g, 0, none⟩), .int .i64 (k : Int), .int .i64 0] w1 _ from fun w1 hw => take_calls (h.below hw) k hk)
  have c0 : W.cell? ⟨g, 0, none⟩ = some (.slice A l.length c) := (blk_cell h 0).trans rfl
  have c1 : W.cell? ⟨g, 1, none⟩ = some (.int .i64 (a : Int)) := (blk_cell h 1).trans rfl
  rw [hg] at HG
  generalize l.length - a = n1 at *
  clear h hC hc ha hb hg hl hm hk hA1 hc1
  go_enter Tryd.func21, Tryd.ntmps21
  go_wp2_with (go_at_call 40; refine HL.out.mono ?_; rintro e w' ⟨rfl, rfl⟩)
  go_region_with (go_at_call 43; refine (HG.out _).mono ?_; rintro e w1 ⟨v, rfl, hv, hb1⟩)
  all_goals
    have HB := Aside0.mk (show Below W.heap.size W w1 from ⟨hb1.os, hb1.tape, hb1.output, hb1.size, hb1.block⟩)
    have HV := Aside0.mk (show Kd.R (Kd.int .u8) 5 w1 W.heap.size (fun _ => True) v p from hv)
    clear hb1 HG hv
    go_wp2_with (go_at_call 42; refine (HT.out _ HB.out).mono ?_; rintro e w' ⟨rfl, rfl⟩)
    go_ret
    exact ⟨_, _, rfl, HV.out, HB.out, rfl⟩
set_option maxHeartbeats 2000000 in
theorem bytes_ends {l : List Int} (h : At W g A l.length c a true) (hC : (Kd.int .u8).C W A l.length l) (hc : l.length ≤ c) (ha : a ≤ l.length) (hb : Bytes l) (hl : l.length ≤ 140737488351232) (most : Int) (hm : most ≤ 9223372036854775807) (p : List Int) (k er : Int) (hg : gb (l.drop a) most = (p, k, er)) (he : er ≠ 0) :
    Calls Tryd.prog 21 #[.pointer (some ⟨g, 0, none⟩), .int .i64 most] W fun e w' => e = .panicked [ends g er] ∧ Below W.heap.size W w' := by
  have HL := Aside0.mk (live_calls h)
  obtain ⟨A1, hcut, hA1, hc1⟩ := cut_rest (W := W) hC hc ha
  have HG := Aside0.mk (show ∀ m, Calls Tryd.prog 43 #[.slice A1 (l.length - a) (c - a), .int .i64 most] (W.drewN m) _ from fun m => getBytes_calls (l := l.drop a) List.length_drop (hA1 _ (Kd.C_drewN hC m)) hc1 (hb.drop a) (by rw [List.length_drop]; omega) most hm)
  have HT := Aside0.mk (show ∀ w1, Below W.heap.size W w1 → Calls Tryd.prog 42 #[.pointer (some ⟨g, 0, none⟩), .int .i64 k, .int .i64 er] w1 _ from fun w1 hw => take_ends (h.below hw) k er he)
  have c0 : W.cell? ⟨g, 0, none⟩ = some (.slice A l.length c) := (blk_cell h 0).trans rfl
  have c1 : W.cell? ⟨g, 1, none⟩ = some (.int .i64 (a : Int)) := (blk_cell h 1).trans rfl
  rw [hg] at HG
  generalize l.length - a = n1 at *
  clear h hC hc ha hb hg hl hm hA1 hc1 he
  go_enter Tryd.func21, Tryd.ntmps21
  go_wp2_with (go_at_call 40; refine HL.out.mono ?_; rintro e w' ⟨rfl, rfl⟩)
  go_region_with (go_at_call 43; refine (HG.out _).mono ?_; rintro e w1 ⟨v, rfl, hv, hb1⟩)
  all_goals
    have HB := Aside0.mk (show Below W.heap.size W w1 from ⟨hb1.os, hb1.tape, hb1.output, hb1.size, hb1.block⟩)
    clear hb1 HG hv
    go_wp2_with (go_at_call 42; refine (HT.out _ HB.out).mono ?_; rintro e w' ⟨rfl, rfl⟩)
    (try simp only [Exit.inBlock, Exit.then])
    exact ⟨rfl, rfl, HB.out⟩
theorem bytes_closed (h : At W g A n c a false) (most : Int) : Calls Tryd.prog 21 #[.pointer (some ⟨g, 0, none⟩), .int .i64 most] W fun e w' => e = .returned (.slice none 0 0) ∧ W = w' := by
  have HL := Aside0.mk (live_calls h)
  clear h
  go_enter Tryd.func21, Tryd.ntmps21
  go_wp2_with (go_at_call 40; refine HL.out.mono ?_; rintro e w' ⟨rfl, rfl⟩)
  go_ret
  exact ⟨rfl, rfl⟩
theorem bytes_nil (W : World) (most : Int) : Calls Tryd.prog 21 #[.pointer none, .int .i64 most] W fun e w' => e = .returned (.slice none 0 0) ∧ W = w' := by
  go_enter Tryd.func21, Tryd.ntmps21
  go_wp2_with (go_at_call 40; refine (live_nil _).mono ?_; rintro e w' ⟨rfl, rfl⟩)
  go_ret
  exact ⟨rfl, rfl⟩
end
end Go.Proofs.YtciolchdihlgfaaDoor.Rd

namespace Go.Proofs.YtciolchdihlgfaaDoor.Rd
open Go.RowKit Go.Proofs.YtciolchdihlgfaaDoorW.PrintWords Go.Proofs.YtciolchdihlgfaaDoorW.PrintLast Go.Proofs.YtciolchdihlgfaaDoorW.PrintMore Go.Proofs.YtciolchdihlgfaaDoor.Wire
set_option linter.unusedVariables false
set_option linter.unusedSimpArgs false
set_option maxRecDepth 100000

/-- Run's own variables: the place, the error, the reader's variable. -/
structure Vars (W : World) (ba be br g : Nat) : Prop where
  a : W.heap[ba]? = some (.cells #[.int .i64 0] 3 (0, 0))
  e : W.heap[be]? = some (.cells #[.int .i64 0] 25 (0, 0))
  r : W.heap[br]? = some (.cells #[.pointer (some ⟨g, 0, none⟩)] 45 (0, 0))
theorem neq_same {P : Program} (w : World) {tp te : TypeId} {j : TypeInfo} (a : Addr) (hp : P.underlying tp = some (.pointer te)) (hte : P.info? te = some j) :
    (binOp .neq tp (.pointer (some a)) (.pointer (some a))).run P w = .ok (.bool false) w := by
  have h : ∀ d : Nat, (Op.equalIn (d + 1) tp (.pointer (some a)) (.pointer (some a))).run P w = .ok true w := fun d => by
    simp [Op.equalIn, run_underlying hp, sizeOf, typeInfo, hte, run_sameAddr_same]
  simp only [binOp]
  simp [Op.equal, Op.maxDepth, h 9999]
theorem neq_reader (g : Nat) (w : World) : (binOp .neq 45 (.pointer (some ⟨g, 0, none⟩)) (.pointer (some ⟨g, 0, none⟩))).run Tryd.prog w = .ok (.bool false) w := by
  have h : (Tryd.prog.info? 78).isSome = true := by kernel_rfl
  obtain ⟨j, hj⟩ := Option.isSome_iff_exists.mp h
  exact neq_same w _ Tryd.underlying45 hj
theorem wpS_plain {P : Program} {c : Code} {Q : Exit → Act → List Frame → World → Prop} {a : Act} {cs : List Frame} {w : World} (S : World → Prop)
    (h : ∀ Q' : Exit → Act → World → Prop, Aside0 (∀ a' w', a'.defers = [] → S w' → Q' .normal a' w') → c.wp P Q' a w) (hq : ∀ a' w', a'.defers = [] → S w' → Q .normal a' cs w') : c.wpS P Q a cs w :=
  wpS_of_wp (h _ ⟨hq⟩)
theorem Vars.ne {W : World} {ba be br g : Nat} (h : Vars W ba be br g) : ba ≠ be ∧ ba ≠ br ∧ be ≠ br := ⟨blk_ne h.a h.e (by decide), blk_ne h.a h.r (by decide), blk_ne h.e h.r (by decide)⟩
set_option maxHeartbeats 2000000 in
theorem done_idle {W : World} {ba be br g : Nat} {A : Option Addr} {n c a : Nat} (hg : At W g A n c a true) (hr : W.heap[br]? = some (.cells #[.pointer (some ⟨g, 0, none⟩)] 45 (0, 0))) :
    CallsD Tryd.prog 39 #[.pointer (some ⟨br, 0, none⟩), .pointer (some ⟨ba, 0, none⟩), .pointer (some ⟨be, 0, none⟩)] .returning W fun e u' w' => e = .returned (.tuple #[]) ∧ u' = .returning ∧ w' = W.setCell ⟨g, 2, none⟩ (.bool false) := by
  have cr : W.cell? ⟨br, 0, none⟩ = some (.pointer (some ⟨g, 0, none⟩)) := (blk_cell hr 0).trans rfl
  have c2 : W.cell? ⟨g, 2, none⟩ = some (.bool true) := (blk_cell hg 2).trans rfl
  have f2 := blk_frozen hg 2
  clear hg hr
  refine callsD_of_wpS Tryd.func39 rfl fun c₀ cs hu => ?_
  simp only [Tryd.ntmps39, List.size_toArray, List.length_cons, List.length_nil, Nat.reduceAdd, Nat.reduceSub, Array.replicate_succ, Array.replicate_zero, List.push_toArray, List.append_toArray, List.nil_append, List.cons_append]
  apply wpS_seq
  apply wpS_region
  simp [wpOpsS, go_sem, cr, c2, f2, Tryd.ntmps39, Exit.thenS]
  apply wpS_seq
  apply wpS_region
  simp [wpOpsS, go_sem, recoverD, hu, Exit.thenS]
  refine wpS_plain (fun w' => w' = W.setCell ⟨g, 2, none⟩ (.bool false)) (fun Q' HQ => ?_) ?_
  · clear hu
    go_wp2
    exact HQ.out _ _ rfl rfl
  · rintro a' w' hd rfl
    refine ⟨hd, .returning, ?_, _, by simp [results, Tryd.results39], rfl, rfl, rfl⟩
    cases c₀
    simp_all
set_option maxHeartbeats 2000000 in
theorem done_ends {W : World} {ba be br g : Nat} {A : Option Addr} {n c a : Nat} (er : Int) (hg : At W g A n c a true) (hv : Vars W ba be br g) (older : List PanicEntry) :
    CallsD Tryd.prog 39 #[.pointer (some ⟨br, 0, none⟩), .pointer (some ⟨ba, 0, none⟩), .pointer (some ⟨be, 0, none⟩)] (.panicking (ends g er :: older)) W fun e u' w' => e = .returned (.tuple #[]) ∧ u' = .panicking ({ (ends g er) with recovered := true } :: older) ∧
      ∃ o, w' = ((((W.setCell ⟨g, 2, none⟩ (.bool false)).setCell ⟨ba, 0, none⟩ (.int .i64 (a : Int))).setCell ⟨be, 0, none⟩ (.int .i64 er)).alloc o).drew := by
  have cr : W.cell? ⟨br, 0, none⟩ = some (.pointer (some ⟨g, 0, none⟩)) := (blk_cell hv.r 0).trans rfl
  have ca : W.cell? ⟨ba, 0, none⟩ = some (.int .i64 0) := (blk_cell hv.a 0).trans rfl
  have ce : W.cell? ⟨be, 0, none⟩ = some (.int .i64 0) := (blk_cell hv.e 0).trans rfl
  have c1 : W.cell? ⟨g, 1, none⟩ = some (.int .i64 (a : Int)) := (blk_cell hg 1).trans rfl
  have c2 : W.cell? ⟨g, 2, none⟩ = some (.bool true) := (blk_cell hg 2).trans rfl
  have f2 := blk_frozen hg 2
  have fa := blk_frozen hv.a 0
  have fe := blk_frozen hv.e 0
  refine callsD_of_wpS Tryd.func39 rfl fun c₀ cs hu => ?_
  simp only [Tryd.ntmps39, List.size_toArray, List.length_cons, List.length_nil, Nat.reduceAdd, Nat.reduceSub, Array.replicate_succ, Array.replicate_zero, List.push_toArray, List.append_toArray, List.nil_append, List.cons_append]
  apply wpS_seq
  apply wpS_region
  simp [wpOpsS, go_sem, cr, c2, f2, Tryd.ntmps39, Exit.thenS]
  apply wpS_seq
  apply wpS_region
  simp [wpOpsS, go_sem, recoverD, hu, ends, Exit.thenS]
  have hta : ∀ x w, (Instr.typeAssert (.iface 80 x) 20 80 true).run Tryd.prog w = .ok (.tuple #[x, .bool true]) w := fun _ _ => by kernel_rfl
  have hab : ¬ ba = be := hv.ne.1
  have hba : ¬ be = ba := fun z => hv.ne.1 z.symm
  have lba : ba < W.heap.size := blk_lt hv.a
  have lbe : be < W.heap.size := blk_lt hv.e
  have lbr : br < W.heap.size := blk_lt hv.r
  have lg : g < W.heap.size := blk_lt hg
  refine wpS_plain (fun w' => ∃ o, w' = ((((W.setCell ⟨g, 2, none⟩ (.bool false)).setCell ⟨ba, 0, none⟩ (.int .i64 (a : Int))).setCell ⟨be, 0, none⟩ (.int .i64 er)).alloc o).drew) (fun Q' HQ => ?_) ?_
  · clear hu hg hv
    have hnp := neq_reader g
    go_wp2
    go_region
    (try simp only [Exit.inBlock])
    exact HQ.out _ _ rfl ⟨_, rfl⟩
  · rintro a' w' hd hS
    refine ⟨hd, _, rfl, _, by simp [results, Tryd.results39], rfl, rfl, hS⟩
section
variable {W : World} {A : Option Addr} {n c : Nat}
theorem run_none (W : World) (A : Option Addr) (n c : Nat) : Calls Tryd.prog 17 #[.slice A n c, .nilFunc] W fun e w' => e = .returned (.tuple #[.int .i64 0, .int .i64 1]) ∧ Below W.heap.size W w' := by
  have heq : ∀ w, (binOp BinOp.eql 57 Value.nilFunc Value.nilFunc).run Tryd.prog w = .ok (.bool true) w := fun _ => by kernel_rfl
  go_enter_defers Tryd.func17, Tryd.ntmps17
  go_wp2
  simp [bodyPostD, Leaves, results, Tryd.results17, go_sem]
  repeat (first | exact Below.refl _ _ | apply below_alloc)
theorem At.far_set {W : World} {g : Nat} {A : Option Addr} {n c a : Nat} {o : Bool} (h : At W g A n c a o) {p : Addr} (hp : g ≠ p.block) (u : Value) : At (W.setCell p u) g A n c a o := blk_far h hp u
/-- What Run's own blocks come to. -/
theorem At.drew {W : World} {g : Nat} {A : Option Addr} {n c a : Nat} {o : Bool} (h : At W g A n c a o) : At W.drew g A n c a o := h
theorem run_end {W w1 w2 : World} {g : Nat} {Sx : Nat → Prop} {W1 : World} (hb : Below W.heap.size W W1) (hk : Kp (fun k => k = g ∨ Sx k) W1 w1) (hg : W.heap.size ≤ g) (hg1 : g < W1.heap.size)
    (hw : Kp (fun k => W.heap.size ≤ k ∧ k < W1.heap.size) w1 w2) : Kp Sx W w2 := by
  refine ((Kp.of_below hb Sx).then_ hk ?_).then_ hw ?_
  · rintro k (rfl | z)
    · exact .inr hg
    · exact .inl z
  · rintro k ⟨z, _⟩
    exact .inr z
/-- What a function that reads leaves: all but the reader's block g and the blocks of Sx stands; it has come to an end, or the reader has ended it. -/
def Left_ (Sx : Nat → Prop) (g : Nat) (A : Option Addr) (n c : Nat) (W1 : World) (Done : Nat → World → Prop) (Ended : Nat → Int → World → Prop) (e : Ending) (w' : World) : Prop :=
  Kp (fun k => k = g ∨ Sx k) W1 w' ∧ ((e = .returned (.tuple #[]) ∧ ∃ a, At w' g A n c a true ∧ a ≤ n ∧ Done a w') ∨ (∃ a er, e = .panicked [ends g er] ∧ At w' g A n c a true ∧ a ≤ n ∧ Ended a er w'))
set_option maxHeartbeats 2000000 in
theorem run_calls {fn : Nat} {caps : Array Value} (Sx : Nat → Prop) (Done : Nat → Nat → Nat → World → Prop) (Ended : Nat → Nat → Nat → Int → World → Prop)
    (hn : n ≤ 9223372036854775807) (hS : ∀ k, Sx k → k < W.heap.size) (hcf : ∀ args w, (callFunc fn args).run Tryd.prog w = .ok (.enter fn args) w)
    (hf : ∀ g W1, At W1 g A n c 0 true → Below W.heap.size W W1 → W.heap.size ≤ g → g < W1.heap.size →
      Calls Tryd.prog fn (#[.pointer (some ⟨g, 0, none⟩)] ++ caps) W1 (Left_ Sx g A n c W1 (Done g W1.heap.size) (Ended g W1.heap.size))) :
    Calls Tryd.prog 17 #[.slice A n c, .func (.func fn) #[] caps] W fun e w' => ∃ g h1 a er w1, e = .returned (.tuple #[.int .i64 ((a : Nat) : Int), .int .i64 er]) ∧ W.heap.size ≤ g ∧ g < h1 ∧ h1 ≤ w1.heap.size ∧ Kp Sx W w' ∧ Kp (fun k => W.heap.size ≤ k ∧ k < h1) w1 w' ∧ At w' g A n c a false ∧ a ≤ n ∧
      ((Done g h1 a w1 ∧ er = (if a < n then 7 else 0)) ∨ Ended g h1 a er w1) := by
  have heq : ∀ w, (binOp BinOp.eql 57 (Value.func (.func fn) #[] caps) Value.nilFunc).run Tryd.prog w = .ok (.bool false) w := fun _ => by rfl
  have hmf : ∀ (fn : Fn) (first cap : Array Value) (w : World), (Instr.makeFunc fn first cap).run Tryd.prog w = .ok (.func fn first cap) w := fun _ _ _ _ => rfl
  have HF := Aside0.mk hf
  have HS := Aside0.mk hS
  clear hf hS
  go_enter_defers Tryd.func17, Tryd.ntmps17
  go_wp2_with fail
  have hbase : W.heap.size + 1 + 1 + 1 + 1 = (((((W.alloc (Obj.cells #[Value.int IntKind.i64 0] 3)).alloc (Obj.cells #[Value.int IntKind.i64 0] 25)).alloc
          (Obj.cells #[Value.slice A n c, Value.int IntKind.i64 0, Value.bool true] 78)).alloc
      (Obj.cells #[Value.pointer (some { block := W.heap.size + 1 + 1, off := 0 })] 45))).heap.size := by simp
  have HBASE := Aside0.mk hbase
  clear hbase
  refine (HF.out (W.heap.size + 1 + 1) _ ?_ ?_ ?_ ?_).mono ?_
  · refine blk_alloc ?_ _
    have := heap_alloc_new ((W.alloc (Obj.cells #[Value.int IntKind.i64 0] 3)).alloc (Obj.cells #[Value.int IntKind.i64 0] 25)) (Obj.cells #[Value.slice A n c, Value.int IntKind.i64 0, Value.bool true] 78)
    simpa using this
  · repeat (first | exact Below.refl _ _ | apply below_alloc)
  · omega
  · simp
  rintro e w1 ⟨hk, hcase⟩
  have hV : Vars w1 W.heap.size (W.heap.size + 1) (W.heap.size + 1 + 1 + 1) (W.heap.size + 1 + 1) := by
    refine ⟨hk.blk ?_ ?_, hk.blk ?_ ?_, hk.blk ?_ ?_⟩
    · exact blk_alloc (blk_alloc (blk_alloc (heap_alloc_new W _) _) _) _
    · rintro (z | z)
      · omega
      · have := HS.out _ z; omega
    · refine blk_alloc (blk_alloc ?_ _) _
      have := heap_alloc_new (W.alloc (Obj.cells #[Value.int IntKind.i64 0] 3)) (Obj.cells #[Value.int IntKind.i64 0] 25)
      simpa using this
    · rintro (z | z)
      · omega
      · have := HS.out _ z; omega
    · have := heap_alloc_new (((W.alloc (Obj.cells #[Value.int IntKind.i64 0] 3)).alloc (Obj.cells #[Value.int IntKind.i64 0] 25)).alloc (Obj.cells #[Value.slice A n c, Value.int IntKind.i64 0, Value.bool true] 78)) (Obj.cells #[Value.pointer (some { block := W.heap.size + 1 + 1, off := 0 })] 45)
      simpa using this
    · rintro (z | z)
      · omega
      · have := HS.out _ z; omega
  have HV := Aside0.mk hV
  have HK := Aside0.mk hk
  clear hV hk HF HBASE
  rcases hcase with ⟨rfl, a, hat, ha, hd⟩ | ⟨a, er, rfl, hat, ha, he⟩
  · have HAT := Aside0.mk hat
    have HD := Aside0.mk hd
    have cr : w1.cell? ⟨W.heap.size + 1 + 1 + 1, 0, none⟩ = some (.pointer (some ⟨W.heap.size + 1 + 1, 0, none⟩)) := (blk_cell HV.out.r 0).trans rfl
    have c1 : w1.cell? ⟨W.heap.size + 1 + 1, 1, none⟩ = some (.int .i64 (a : Int)) := (blk_cell HAT.out 1).trans rfl
    have ca : w1.cell? ⟨W.heap.size, 0, none⟩ = some (.int .i64 0) := (blk_cell HV.out.a 0).trans rfl
    have ce : w1.cell? ⟨W.heap.size + 1, 0, none⟩ = some (.int .i64 0) := (blk_cell HV.out.e 0).trans rfl
    have fa := blk_frozen HV.out.a 0
    have fe := blk_frozen HV.out.e 0
    clear hat hd
    have HB1 : Below W.heap.size W (((((W.alloc (Obj.cells #[Value.int IntKind.i64 0] 3)).alloc (Obj.cells #[Value.int IntKind.i64 0] 25)).alloc
          (Obj.cells #[Value.slice A n c, Value.int IntKind.i64 0, Value.bool true] 78)).alloc
      (Obj.cells #[Value.pointer (some { block := W.heap.size + 1 + 1, off := 0 })] 45))) := by repeat (first | exact Below.refl _ _ | apply below_alloc)
    have HB1 := Aside0.mk HB1
    have HSZ := Aside0.mk (show (((((W.alloc (Obj.cells #[Value.int IntKind.i64 0] 3)).alloc (Obj.cells #[Value.int IntKind.i64 0] 25)).alloc
          (Obj.cells #[Value.slice A n c, Value.int IntKind.i64 0, Value.bool true] 78)).alloc
      (Obj.cells #[Value.pointer (some { block := W.heap.size + 1 + 1, off := 0 })] 45))).heap.size = W.heap.size + 4 by simp)
    generalize (((((W.alloc (Obj.cells #[Value.int IntKind.i64 0] 3)).alloc (Obj.cells #[Value.int IntKind.i64 0] 25)).alloc
          (Obj.cells #[Value.slice A n c, Value.int IntKind.i64 0, Value.bool true] 78)).alloc
      (Obj.cells #[Value.pointer (some { block := W.heap.size + 1 + 1, off := 0 })] 45))) = W1 at *
    have HN := Aside0.mk HV.out.ne
    have fin : ∀ (er : Int) (w2 : World) (tm : Array Value), tm.getD 4 undef = .pointer (some ⟨W.heap.size, 0, none⟩) → tm.getD 5 undef = .pointer (some ⟨W.heap.size + 1, 0, none⟩) → er = (if a < n then 7 else 0) →
        w2.heap[W.heap.size]? = some (.cells #[.int .i64 (a : Int)] 3 (0, 0)) → w2.heap[W.heap.size + 1]? = some (.cells #[.int .i64 er] 25 (0, 0)) → At w2 (W.heap.size + 1 + 1) A n c a true →
        Kp (fun k => W.heap.size ≤ k ∧ k < W1.heap.size) w1 w2 →
        Leaves Tryd.prog Tryd.f17 tm (fun e w' => ∃ g h1 a er w1, e = .returned (.tuple #[.int .i64 ((a : Nat) : Int), .int .i64 er]) ∧ W.heap.size ≤ g ∧ g < h1 ∧ h1 ≤ w1.heap.size ∧ Kp Sx W w' ∧ Kp (fun k => W.heap.size ≤ k ∧ k < h1) w1 w' ∧ At w' g A n c a false ∧ a ≤ n ∧
          ((Done g h1 a w1 ∧ er = (if a < n then 7 else 0)) ∨ Ended g h1 a er w1)) [] .returning (w2.setCell ⟨W.heap.size + 1 + 1, 2, none⟩ (.bool false)) := by
      intro er w2 tm e4 e5 her ha2 he2 hat2 hk2
      have d1 : (w2.setCell ⟨W.heap.size + 1 + 1, 2, none⟩ (.bool false)).cell? ⟨W.heap.size, 0, none⟩ = some (.int .i64 (a : Int)) := (blk_cell (blk_far ha2 (p := ⟨W.heap.size + 1 + 1, 2, none⟩) (by show W.heap.size ≠ W.heap.size + 1 + 1; omega) _) 0).trans rfl
      have d2 : (w2.setCell ⟨W.heap.size + 1 + 1, 2, none⟩ (.bool false)).cell? ⟨W.heap.size + 1, 0, none⟩ = some (.int .i64 er) := (blk_cell (blk_far he2 (p := ⟨W.heap.size + 1 + 1, 2, none⟩) (by show W.heap.size + 1 ≠ W.heap.size + 1 + 1; omega) _) 0).trans rfl
      have hk3 : Kp (fun k => W.heap.size ≤ k ∧ k < W1.heap.size) w1 (w2.setCell ⟨W.heap.size + 1 + 1, 2, none⟩ (.bool false)) := hk2.setCell (.inl ⟨by show W.heap.size ≤ W.heap.size + 1 + 1; omega, by show W.heap.size + 1 + 1 < W1.heap.size; rw [HSZ.out]; omega⟩) _
      refine ⟨.tuple #[.int .i64 (a : Int), .int .i64 er], ?_, ?_⟩
      · simp only [results, Tryd.results17]
        rw [Array.getD_eq_getD_getElem?] at e4 e5
        simp [go_sem, e4, e5, d1, d2]
      · exact ⟨W.heap.size + 1 + 1, W1.heap.size, a, er, w1, rfl, by omega, by rw [HSZ.out]; omega, HK.out.size, run_end HB1.out HK.out (by omega) (by rw [HSZ.out]; omega) hk3, hk3, hat2.close, ha, .inl ⟨HD.out, her⟩⟩
    have HFIN := Aside0.mk fin
    clear fin
    by_cases hlt : a < n
    · have t1 : decide ((a : Int) < (n : Int)) = true := decide_eq_true (by omega)
      have t2 : decide (a < n) = true := decide_eq_true hlt
      have HLT := Aside0.mk hlt
      clear hlt
      go_wp2
      go_region
      go_wp2
      refine leaves_cons (f := 39) (args := #[.pointer (some ⟨W.heap.size + 1 + 1 + 1, 0, none⟩), .pointer (some ⟨W.heap.size, 0, none⟩), .pointer (some ⟨W.heap.size + 1, 0, none⟩)]) (by simp) (by simp [go_sem]) ?_
      have q1 : W.heap.size + 1 + 1 ≠ W.heap.size + 1 := by omega
      have q2 : W.heap.size + 1 + 1 ≠ W.heap.size := by omega
      have q3 : W.heap.size + 1 + 1 + 1 ≠ W.heap.size + 1 := by omega
      have q4 : W.heap.size + 1 + 1 + 1 ≠ W.heap.size := by omega
      have q5 : W.heap.size + 1 ≠ W.heap.size := by omega
      have q6 : W.heap.size ≠ W.heap.size + 1 := by omega
      refine (done_idle (a := a) (n := n) (c := c) (A := A) (((HAT.out.far_set (p := ⟨W.heap.size + 1, 0, none⟩) q1 _).far_set (p := ⟨W.heap.size, 0, none⟩) q2 _).far_set (p := ⟨W.heap.size + 1, 0, none⟩) q1 _).drew (blk_drew (blk_far (p := ⟨W.heap.size + 1, 0, none⟩) (blk_far (p := ⟨W.heap.size, 0, none⟩) (blk_far (p := ⟨W.heap.size + 1, 0, none⟩) HV.out.r q3 _) q4 _) q3 _))).mono ?_
      rintro e u' w'' ⟨rfl, rfl, rfl⟩
      refine HFIN.out 7 _ _ rfl rfl (by rw [if_pos HLT.out]) ?_ ?_ (((HAT.out.far_set (p := ⟨W.heap.size + 1, 0, none⟩) q1 _).far_set (p := ⟨W.heap.size, 0, none⟩) q2 _).far_set (p := ⟨W.heap.size + 1, 0, none⟩) q1 _) ?_
      · exact blk_far (p := ⟨W.heap.size + 1, 0, none⟩) (blk_put (blk_far (p := ⟨W.heap.size + 1, 0, none⟩) HV.out.a q6 _) 0 _ rfl) q6 _
      · exact blk_put (blk_far (p := ⟨W.heap.size, 0, none⟩) (blk_put HV.out.e 0 (.int .i64 7) rfl) q5 _) 0 _ rfl
      · exact ((((Kp.refl _ w1).setCell (p := ⟨W.heap.size + 1, 0, none⟩) (.inl ⟨by show W.heap.size ≤ W.heap.size + 1; omega, by show W.heap.size + 1 < W1.heap.size; rw [HSZ.out]; omega⟩) _).setCell (p := ⟨W.heap.size, 0, none⟩) (.inl ⟨by show W.heap.size ≤ W.heap.size; omega, by show W.heap.size < W1.heap.size; rw [HSZ.out]; omega⟩) _).setCell (p := ⟨W.heap.size + 1, 0, none⟩) (.inl ⟨by show W.heap.size ≤ W.heap.size + 1; omega, by show W.heap.size + 1 < W1.heap.size; rw [HSZ.out]; omega⟩) _).drew
    · have t1 : decide ((a : Int) < (n : Int)) = false := decide_eq_false (by omega)
      have t2 : decide (a < n) = false := decide_eq_false hlt
      have HLT := Aside0.mk hlt
      clear hlt
      go_wp2
      go_region
      go_wp2
      refine leaves_cons (f := 39) (args := #[.pointer (some ⟨W.heap.size + 1 + 1 + 1, 0, none⟩), .pointer (some ⟨W.heap.size, 0, none⟩), .pointer (some ⟨W.heap.size + 1, 0, none⟩)]) (by simp) (by simp [go_sem]) ?_
      have q1 : W.heap.size + 1 + 1 ≠ W.heap.size + 1 := by omega
      have q2 : W.heap.size + 1 + 1 ≠ W.heap.size := by omega
      have q3 : W.heap.size + 1 + 1 + 1 ≠ W.heap.size + 1 := by omega
      have q4 : W.heap.size + 1 + 1 + 1 ≠ W.heap.size := by omega
      have q5 : W.heap.size + 1 ≠ W.heap.size := by omega
      have q6 : W.heap.size ≠ W.heap.size + 1 := by omega
      refine (done_idle (a := a) (n := n) (c := c) (A := A) ((HAT.out.far_set (p := ⟨W.heap.size, 0, none⟩) q2 _).far_set (p := ⟨W.heap.size + 1, 0, none⟩) q1 _).drew (blk_drew (blk_far (p := ⟨W.heap.size + 1, 0, none⟩) (blk_far (p := ⟨W.heap.size, 0, none⟩) HV.out.r q4 _) q3 _))).mono ?_
      rintro e u' w'' ⟨rfl, rfl, rfl⟩
      refine HFIN.out 0 _ _ rfl rfl (by rw [if_neg HLT.out]) ?_ ?_ ((HAT.out.far_set (p := ⟨W.heap.size, 0, none⟩) q2 _).far_set (p := ⟨W.heap.size + 1, 0, none⟩) q1 _) ?_
      · exact blk_far (p := ⟨W.heap.size + 1, 0, none⟩) (blk_put HV.out.a 0 _ rfl) q6 _
      · exact blk_put (blk_far (p := ⟨W.heap.size, 0, none⟩) HV.out.e q5 _) 0 _ rfl
      · exact (((Kp.refl _ w1).setCell (p := ⟨W.heap.size, 0, none⟩) (.inl ⟨by show W.heap.size ≤ W.heap.size; omega, by show W.heap.size < W1.heap.size; rw [HSZ.out]; omega⟩) _).setCell (p := ⟨W.heap.size + 1, 0, none⟩) (.inl ⟨by show W.heap.size ≤ W.heap.size + 1; omega, by show W.heap.size + 1 < W1.heap.size; rw [HSZ.out]; omega⟩) _).drew
  · have HAT := Aside0.mk hat
    have HE := Aside0.mk he
    clear hat he
    have HB1 : Below W.heap.size W (((((W.alloc (Obj.cells #[Value.int IntKind.i64 0] 3)).alloc (Obj.cells #[Value.int IntKind.i64 0] 25)).alloc
          (Obj.cells #[Value.slice A n c, Value.int IntKind.i64 0, Value.bool true] 78)).alloc
      (Obj.cells #[Value.pointer (some { block := W.heap.size + 1 + 1, off := 0 })] 45))) := by repeat (first | exact Below.refl _ _ | apply below_alloc)
    have HB1 := Aside0.mk HB1
    have HSZ := Aside0.mk (show (((((W.alloc (Obj.cells #[Value.int IntKind.i64 0] 3)).alloc (Obj.cells #[Value.int IntKind.i64 0] 25)).alloc
          (Obj.cells #[Value.slice A n c, Value.int IntKind.i64 0, Value.bool true] 78)).alloc
      (Obj.cells #[Value.pointer (some { block := W.heap.size + 1 + 1, off := 0 })] 45))).heap.size = W.heap.size + 4 by simp)
    generalize (((((W.alloc (Obj.cells #[Value.int IntKind.i64 0] 3)).alloc (Obj.cells #[Value.int IntKind.i64 0] 25)).alloc
          (Obj.cells #[Value.slice A n c, Value.int IntKind.i64 0, Value.bool true] 78)).alloc
      (Obj.cells #[Value.pointer (some { block := W.heap.size + 1 + 1, off := 0 })] 45))) = W1 at *
    go_wp2
    refine leaves_cons (f := 39) (args := #[.pointer (some ⟨W.heap.size + 1 + 1 + 1, 0, none⟩), .pointer (some ⟨W.heap.size, 0, none⟩), .pointer (some ⟨W.heap.size + 1, 0, none⟩)]) (by simp) (by simp [go_sem]) ?_
    have q1 : W.heap.size + 1 + 1 ≠ W.heap.size + 1 := by omega
    have q2 : W.heap.size + 1 + 1 ≠ W.heap.size := by omega
    have q5 : W.heap.size + 1 ≠ W.heap.size := by omega
    have q6 : W.heap.size ≠ W.heap.size + 1 := by omega
    have q7 : W.heap.size ≠ W.heap.size + 1 + 1 := by omega
    have q8 : W.heap.size + 1 ≠ W.heap.size + 1 + 1 := by omega
    refine (done_ends er HAT.out HV.out []).mono ?_
    rintro e u' w'' ⟨rfl, rfl, o, rfl⟩
    have ha2 : ((((w1.setCell ⟨W.heap.size + 1 + 1, 2, none⟩ (.bool false)).setCell ⟨W.heap.size, 0, none⟩ (.int .i64 (a : Int))).setCell ⟨W.heap.size + 1, 0, none⟩ (.int .i64 er)).alloc o).heap[W.heap.size]? = some (.cells #[.int .i64 (a : Int)] 3 (0, 0)) :=
      blk_alloc (blk_far (p := ⟨W.heap.size + 1, 0, none⟩) (blk_put (blk_far (p := ⟨W.heap.size + 1 + 1, 2, none⟩) HV.out.a q7 _) 0 _ rfl) q6 _) _
    have he2 : ((((w1.setCell ⟨W.heap.size + 1 + 1, 2, none⟩ (.bool false)).setCell ⟨W.heap.size, 0, none⟩ (.int .i64 (a : Int))).setCell ⟨W.heap.size + 1, 0, none⟩ (.int .i64 er)).alloc o).heap[W.heap.size + 1]? = some (.cells #[.int .i64 er] 25 (0, 0)) :=
      blk_alloc (blk_put (blk_far (p := ⟨W.heap.size, 0, none⟩) (blk_far (p := ⟨W.heap.size + 1 + 1, 2, none⟩) HV.out.e q8 _) q5 _) 0 _ rfl) _
    have hat2 : At ((((w1.setCell ⟨W.heap.size + 1 + 1, 2, none⟩ (.bool false)).setCell ⟨W.heap.size, 0, none⟩ (.int .i64 (a : Int))).setCell ⟨W.heap.size + 1, 0, none⟩ (.int .i64 er)).alloc o) (W.heap.size + 1 + 1) A n c a false :=
      blk_alloc ((HAT.out.close.far_set (p := ⟨W.heap.size, 0, none⟩) q2 _).far_set (p := ⟨W.heap.size + 1, 0, none⟩) q1 _) _
    have hk3 : Kp (fun k => W.heap.size ≤ k ∧ k < W1.heap.size) w1 ((((w1.setCell ⟨W.heap.size + 1 + 1, 2, none⟩ (.bool false)).setCell ⟨W.heap.size, 0, none⟩ (.int .i64 (a : Int))).setCell ⟨W.heap.size + 1, 0, none⟩ (.int .i64 er)).alloc o).drew :=
      (((((Kp.refl _ w1).setCell (p := ⟨W.heap.size + 1 + 1, 2, none⟩) (.inl ⟨by show W.heap.size ≤ W.heap.size + 1 + 1; omega, by show W.heap.size + 1 + 1 < W1.heap.size; rw [HSZ.out]; omega⟩) _).setCell (p := ⟨W.heap.size, 0, none⟩) (.inl ⟨by show W.heap.size ≤ W.heap.size; omega, by show W.heap.size < W1.heap.size; rw [HSZ.out]; omega⟩) _).setCell (p := ⟨W.heap.size + 1, 0, none⟩) (.inl ⟨by show W.heap.size ≤ W.heap.size + 1; omega, by show W.heap.size + 1 < W1.heap.size; rw [HSZ.out]; omega⟩) _).alloc _).drew
    have d1 : ((((w1.setCell ⟨W.heap.size + 1 + 1, 2, none⟩ (.bool false)).setCell ⟨W.heap.size, 0, none⟩ (.int .i64 (a : Int))).setCell ⟨W.heap.size + 1, 0, none⟩ (.int .i64 er)).alloc o).drew.cell? ⟨W.heap.size, 0, none⟩ = some (.int .i64 (a : Int)) := (blk_cell (blk_drew ha2) 0).trans rfl
    have d2 : ((((w1.setCell ⟨W.heap.size + 1 + 1, 2, none⟩ (.bool false)).setCell ⟨W.heap.size, 0, none⟩ (.int .i64 (a : Int))).setCell ⟨W.heap.size + 1, 0, none⟩ (.int .i64 er)).alloc o).drew.cell? ⟨W.heap.size + 1, 0, none⟩ = some (.int .i64 er) := (blk_cell (blk_drew he2) 0).trans rfl
    have hR : ∃ g h1 a_1 er_1 w1_1, Ending.returned (.tuple #[.int .i64 (a : Int), .int .i64 er]) = .returned (.tuple #[.int .i64 ((a_1 : Nat) : Int), .int .i64 er_1]) ∧ W.heap.size ≤ g ∧ g < h1 ∧ h1 ≤ w1_1.heap.size ∧ Kp Sx W ((((w1.setCell ⟨W.heap.size + 1 + 1, 2, none⟩ (.bool false)).setCell ⟨W.heap.size, 0, none⟩ (.int .i64 (a : Int))).setCell ⟨W.heap.size + 1, 0, none⟩ (.int .i64 er)).alloc o).drew ∧ Kp (fun k => W.heap.size ≤ k ∧ k < h1) w1_1 ((((w1.setCell ⟨W.heap.size + 1 + 1, 2, none⟩ (.bool false)).setCell ⟨W.heap.size, 0, none⟩ (.int .i64 (a : Int))).setCell ⟨W.heap.size + 1, 0, none⟩ (.int .i64 er)).alloc o).drew ∧ At ((((w1.setCell ⟨W.heap.size + 1 + 1, 2, none⟩ (.bool false)).setCell ⟨W.heap.size, 0, none⟩ (.int .i64 (a : Int))).setCell ⟨W.heap.size + 1, 0, none⟩ (.int .i64 er)).alloc o).drew g A n c a_1 false ∧ a_1 ≤ n ∧
          ((Done g h1 a_1 w1_1 ∧ er_1 = (if a_1 < n then 7 else 0)) ∨ Ended g h1 a_1 er_1 w1_1) :=
      ⟨W.heap.size + 1 + 1, W1.heap.size, a, er, w1, rfl, by omega, by rw [HSZ.out]; omega, HK.out.size, run_end HB1.out HK.out (by omega) (by rw [HSZ.out]; omega) hk3, hk3, hat2, ha, .inr HE.out⟩
    refine ⟨.tuple #[.int .i64 (a : Int), .int .i64 er], ?_, hR⟩
    simp only [results, Tryd.results17]
    simp [go_sem, d1, d2]
end
end Go.Proofs.YtciolchdihlgfaaDoor.Rd

namespace Go.Proofs.YtciolchdihlgfaaDoor.Rd
open Go.RowKit Go.Proofs.YtciolchdihlgfaaDoorW.PrintWords Go.Proofs.YtciolchdihlgfaaDoorW.PrintLast Go.Proofs.YtciolchdihlgfaaDoorW.PrintMore Go.Proofs.YtciolchdihlgfaaDoor.Wire Go.Proofs.YtciolchdihlgfaaDoor.PSc Go.Proofs.YtciolchdihlgfaaDoor.ScG
set_option linter.unusedVariables false
set_option linter.unusedSimpArgs false
set_option maxRecDepth 100000

theorem Kp.set_g {g : Nat} {w W : World} (h : Kp (fun k => k = g) w W) (j : Nat) (u : Value) : Kp (fun k => k = g) w (W.setCell ⟨g, j, none⟩ u) := h.setCell (p := ⟨g, j, none⟩) (.inl rfl) u
/-- A reader over the bytes l, which stood at w0; a of them are taken. -/
structure Rd (w0 W : World) (g : Nat) (A : Option Addr) (c : Nat) (l : List Int) (a : Nat) : Prop where
  at_ : At W g A l.length c a true
  base : Below w0.heap.size w0 W
  old : w0.heap.size ≤ g
  row0 : (Kd.int .u8).C w0 A l.length l
  cap : l.length ≤ c
  le : a ≤ l.length
  by_ : Bytes l
  len : l.length ≤ 140737488351232
namespace Rd
variable {w0 W W' : World} {g : Nat} {A : Option Addr} {c : Nat} {l : List Int} {a : Nat}
theorem row (h : Rd w0 W g A c l a) : (Kd.int .u8).C W A l.length l := Kd.C_below h.row0 h.base
theorem step (h : Rd w0 W g A c l a) (hk : Kp (fun k => k = g) W W') {b : Nat} (hat : At W' g A l.length c b true) (hb : b ≤ l.length) : Rd w0 W' g A c l b :=
  ⟨hat, hk.to_below h.base (fun k z => by rw [z]; exact h.old), h.old, h.row0, h.cap, hb, h.by_, h.len⟩
theorem keep (h : Rd w0 W g A c l a) {S : Nat → Prop} (hk : Kp S W W') (hs : ∀ k, S k → w0.heap.size ≤ k ∧ k ≠ g) : Rd w0 W' g A c l a :=
  ⟨h.at_.keep hk (fun z => (hs g z).2 rfl), hk.to_below h.base (fun k z => (hs k z).1), h.old, h.row0, h.cap, h.le, h.by_, h.len⟩
theorem below (h : Rd w0 W g A c l a) (hb : Below W.heap.size W W') : Rd w0 W' g A c l a := h.keep (Kp.of_below hb (fun _ => False)) (fun _ z => z.elim)
theorem gu_fit (h : Rd w0 W g A c l a) {x k : Int} (hg : gu (l.drop a) = (x, k, 0)) : ∃ n : Nat, k = n ∧ a + n ≤ l.length ∧ 0 ≤ x ∧ x < 18446744073709551616 := by
  obtain ⟨y, hx1, hx2, hx3, hx4, hx5, e⟩ := gu_ok (h.by_.drop a) (by rw [hg])
  rw [hg] at e
  injection e with e1 e2
  injection e2 with e2 e3
  subst e1 e2
  have := hx4
  rw [List.length_drop] at *
  exact ⟨usz y, rfl, by have := h.le; omega, by omega, by omega⟩
theorem byte_step (h : Rd w0 W g A c l a) (ha : a < l.length) : Calls Tryd.prog 23 #[.pointer (some ⟨g, 0, none⟩)] W fun e w' => e = .returned (.int .u8 (rd l (a : Int))) ∧ Rd w0 w' g A c l (a + 1) ∧ Kp (fun k => k = g) W w' := by
  refine (byte_calls h.at_ h.row ha).mono ?_
  rintro e w' ⟨rfl, m, rfl⟩
  have hk : Kp (fun k => k = g) W ((W.drewN m).setCell ⟨g, 1, none⟩ (.int .i64 ((a + 1 : Nat) : Int))) := ((Kp.refl _ W).drewN m).set_g _ _
  exact ⟨rfl, h.step hk ((h.at_.drewN m).set (a + 1)) ha, hk⟩
theorem byte_end (h : Rd w0 W g A c l l.length) : Calls Tryd.prog 23 #[.pointer (some ⟨g, 0, none⟩)] W fun e w' => e = .panicked [ends g 5] ∧ Rd w0 w' g A c l l.length ∧ Kp (fun k => k = g) W w' := by
  refine (byte_ends h.at_ (by have := h.len; omega)).mono ?_
  rintro e w' ⟨rfl, m, rfl⟩
  have hk : Kp (fun k => k = g) W (W.drewN m) := (Kp.refl _ W).drewN m
  exact ⟨rfl, h.step hk (h.at_.drewN m) (Nat.le_refl _), hk⟩
theorem uint_step (h : Rd w0 W g A c l a) (most x : Int) (k : Nat) (hg : gu (l.drop a) = (x, (k : Int), 0)) (hx : x ≤ most) : Calls Tryd.prog 19 #[.pointer (some ⟨g, 0, none⟩), .int .u64 most] W fun e w' => e = .returned (.int .u64 x) ∧ Rd w0 w' g A c l (a + k) ∧ Kp (fun k => k = g) W w' := by
  obtain ⟨n, e, hn, -, -⟩ := h.gu_fit hg
  obtain rfl : k = n := by omega
  refine (uint_calls h.at_ h.row h.cap h.le h.by_ most x k hg hx (by have := h.len; omega)).mono ?_
  rintro e w' ⟨rfl, w1, hb, rfl⟩
  have hk : Kp (fun k => k = g) W (w1.setCell ⟨g, 1, none⟩ (.int .i64 ((a + k : Nat) : Int))) := (Kp.of_below hb _).set_g _ _
  exact ⟨rfl, h.step hk ((h.at_.below hb).set (a + k)) hn, hk⟩
theorem uint_end (h : Rd w0 W g A c l a) (most x k er : Int) (hg : gu (l.drop a) = (x, k, er)) (he : er ≠ 0 ∨ most < x) : Calls Tryd.prog 19 #[.pointer (some ⟨g, 0, none⟩), .int .u64 most] W fun e w' => e = .panicked [ends g (if er = 0 then 3 else er)] ∧ Rd w0 w' g A c l a ∧ Kp (fun k => k = g) W w' := by
  refine (uint_ends h.at_ h.row h.cap h.le h.by_ most x k er hg he).mono ?_
  rintro e w' ⟨rfl, hb⟩
  exact ⟨rfl, h.below hb, Kp.of_below hb _⟩
theorem must_step (h : Rd w0 W g A c l a) (ok : Bool) (er : Int) (hf : ok = true ∨ er = 0) : Calls Tryd.prog 20 #[.pointer (some ⟨g, 0, none⟩), .bool ok, .int .i64 er] W fun e w' => e = .returned (.tuple #[]) ∧ Rd w0 w' g A c l a ∧ Kp (fun k => k = g) W w' := by
  refine (must_fine h.at_ ok er (.inr hf)).mono ?_
  rintro e w' ⟨rfl, rfl⟩
  exact ⟨rfl, h, Kp.refl _ _⟩
theorem must_end (h : Rd w0 W g A c l a) (er : Int) (he : er ≠ 0) : Calls Tryd.prog 20 #[.pointer (some ⟨g, 0, none⟩), .bool false, .int .i64 er] W fun e w' => e = .panicked [ends g er] ∧ Rd w0 w' g A c l a ∧ Kp (fun k => k = g) W w' := by
  refine (must_ends h.at_ er he).mono ?_
  rintro e w' ⟨rfl, rfl⟩
  exact ⟨rfl, h, Kp.refl _ _⟩
end Rd
/-- Run, of a function that keeps to the state of above. -/
theorem run_rd {w0 W : World} {A : Option Addr} {c : Nat} {l : List Int} {fn : Nat} {caps : Array Value} (Sx : Nat → Prop) (Done : Nat → Nat → Nat → World → Prop) (Ended : Nat → Nat → Nat → Int → World → Prop)
    (base : Below w0.heap.size w0 W) (row : (Kd.int .u8).C w0 A l.length l) (cap : l.length ≤ c) (hby : Bytes l) (hl : l.length ≤ 140737488351232)
    (hS : ∀ k, Sx k → k < W.heap.size) (hcf : ∀ args w, (callFunc fn args).run Tryd.prog w = .ok (.enter fn args) w)
    (hf : ∀ g W1, Rd w0 W1 g A c l 0 → Below W.heap.size W W1 → W.heap.size ≤ g → g < W1.heap.size →
      Calls Tryd.prog fn (#[.pointer (some ⟨g, 0, none⟩)] ++ caps) W1 (Left_ Sx g A l.length c W1 (Done g W1.heap.size) (Ended g W1.heap.size))) :
    Calls Tryd.prog 17 #[.slice A l.length c, .func (.func fn) #[] caps] W fun e w' => ∃ g h1 a er w1, e = .returned (.tuple #[.int .i64 ((a : Nat) : Int), .int .i64 er]) ∧ W.heap.size ≤ g ∧ g < h1 ∧ h1 ≤ w1.heap.size ∧ Kp Sx W w' ∧ Kp (fun k => W.heap.size ≤ k ∧ k < h1) w1 w' ∧ At w' g A l.length c a false ∧ a ≤ l.length ∧
      ((Done g h1 a w1 ∧ er = (if a < l.length then 7 else 0)) ∨ Ended g h1 a er w1) :=
  run_calls Sx Done Ended (by omega) hS hcf (fun g W1 hat hb h1 h2 => hf g W1 ⟨hat, base.trans (hb.mono base.size), Nat.le_trans base.size h1, row, cap, Nat.zero_le _, hby, hl⟩ hb h1 h2)
end Go.Proofs.YtciolchdihlgfaaDoor.Rd

namespace Go.Proofs.YtciolchdihlgfaaDoor.Rd
open Go.RowKit Go.Proofs.YtciolchdihlgfaaDoorW.PrintWords Go.Proofs.YtciolchdihlgfaaDoorW.PrintLast Go.Proofs.YtciolchdihlgfaaDoorW.PrintMore Go.Proofs.YtciolchdihlgfaaDoor.Wire Go.Proofs.YtciolchdihlgfaaDoor.PSc Go.Proofs.YtciolchdihlgfaaDoor.ScG
set_option linter.unusedVariables false
set_option linter.unusedSimpArgs false
set_option maxRecDepth 100000
/-! numbers of bytes -/
def gx (l : List Int) (a : Nat) : Int := (gu (l.drop a)).1
def gk (l : List Int) (a : Nat) : Nat := (gu (l.drop a)).2.1.toNat
def ge (l : List Int) (a : Nat) : Int := (gu (l.drop a)).2.2
theorem g_ok {l : List Int} (hb : Bytes l) {a : Nat} (ha : a ≤ l.length) (h : ge l a = 0) :
    gu (l.drop a) = (gx l a, (gk l a : Int), 0) ∧ 0 ≤ gx l a ∧ gx l a < 18446744073709551616 ∧ 1 ≤ gk l a ∧ gk l a ≤ 10 ∧ a + gk l a ≤ l.length ∧ uv (gx l a).toNat = (l.drop a).take (gk l a) := by
  obtain ⟨y, h1, h2, h3, h4, h5, e⟩ := gu_ok (hb.drop a) h
  unfold gx gk
  rw [e]
  dsimp only
  rw [Int.toNat_natCast, Int.toNat_natCast]
  rw [List.length_drop] at h2
  exact ⟨rfl, by omega, by omega, h3, h4, by omega, h1⟩
theorem g_err {l : List Int} {a : Nat} (h : ge l a ≠ 0) : gu (l.drop a) = (0, 0, ge l a) := gu_err h
theorem g_at {l : List Int} {a x : Nat} (hx : x < 18446744073709551616) {t : List Int} (h : l.drop a = uv x ++ t) : ge l a = 0 ∧ gx l a = (x : Int) ∧ gk l a = usz x := by
  unfold ge gx gk
  rw [h, gu_uv hx]
  exact ⟨rfl, rfl, Int.toNat_natCast _⟩
/-! bytes of bytes -/
def bx (l : List Int) (a : Nat) (m : Int) : List Int := (gb (l.drop a) m).1
def bk (l : List Int) (a : Nat) (m : Int) : Nat := (gb (l.drop a) m).2.1.toNat
def be (l : List Int) (a : Nat) (m : Int) : Int := (gb (l.drop a) m).2.2
theorem gb_eq (l : List Int) (a : Nat) (m : Int) : gb (l.drop a) m = if ge l a ≠ 0 then ([], 0, ge l a) else if m < 0 ∨ gx l a > m then ([], 0, 13) else if gx l a > ((l.drop a).length : Int) - (gu (l.drop a)).2.1 then ([], 0, 5)
    else (((l.drop a).take ((gu (l.drop a)).2.1.toNat + (gu (l.drop a)).1.toNat)).drop (gu (l.drop a)).2.1.toNat, (gu (l.drop a)).2.1 + (gu (l.drop a)).1, 0) := rfl
theorem b_ok {l : List Int} (hb : Bytes l) {a : Nat} (ha : a ≤ l.length) {m : Int} (h : be l a m = 0) :
    gb (l.drop a) m = (bx l a m, (bk l a m : Int), 0) ∧ 1 ≤ bk l a m ∧ a + bk l a m ≤ l.length ∧ (bx l a m).length = (gx l a).toNat ∧ 0 ≤ gx l a ∧ gx l a ≤ m ∧ Bytes (bx l a m) ∧ ge l a = 0 ∧ bk l a m = gk l a + (gx l a).toNat ∧
      (l.drop a).take (bk l a m) = uv (bx l a m).length ++ bx l a m := by
  unfold be at h
  unfold bx bk
  rw [gb_eq] at h ⊢
  by_cases h1 : ge l a = 0
  · obtain ⟨e, g1, g2, g3, g4, g5, g6⟩ := g_ok hb ha h1
    rw [if_neg (by rw [h1]; simp)] at h ⊢
    by_cases h2 : m < 0 ∨ gx l a > m
    · rw [if_pos h2] at h; simp at h
    · rw [if_neg h2] at h ⊢
      by_cases h3 : gx l a > ((l.drop a).length : Int) - (gu (l.drop a)).2.1
      · rw [if_pos h3] at h; simp at h
      · rw [if_neg h3]
        rw [e] at h3 ⊢
        dsimp only at h3 ⊢
        rw [List.length_drop] at h3
        have hk : ((gk l a : Int) + gx l a).toNat = gk l a + (gx l a).toNat := by omega
        have hlen : (((l.drop a).take (gk l a + (gx l a).toNat)).drop (gk l a)).length = (gx l a).toNat := by
          rw [List.length_drop, List.length_take, List.length_drop]; omega
        rw [hk, Int.toNat_natCast]
        refine ⟨by rw [show ((gk l a + (gx l a).toNat : Nat) : Int) = (gk l a : Int) + gx l a by omega], by omega, by omega, hlen, g1, by omega, ((hb.drop a).take _).drop _, h1, rfl, ?_⟩
        rw [hlen, g6]
        rw [show (l.drop a).take (gk l a) = ((l.drop a).take (gk l a + (gx l a).toNat)).take (gk l a) by rw [List.take_take, Nat.min_eq_left (by omega)], List.take_append_drop]
  · rw [if_pos h1] at h
    exact absurd h h1
theorem b_err {l : List Int} {a : Nat} {m : Int} (h : be l a m ≠ 0) : gb (l.drop a) m = ([], 0, be l a m) := by
  unfold be at h ⊢
  rw [gb_eq] at h ⊢
  split
  · rfl
  · rename_i h1
    rw [if_neg h1] at h
    split
    · rfl
    · rename_i h2
      rw [if_neg h2] at h
      split
      · rfl
      · rename_i h3
        rw [if_neg h3] at h
        exact absurd rfl h
theorem b_at {l : List Int} {a : Nat} {m : Int} {p t : List Int} (hp : (p.length : Int) ≤ m) (hpl : p.length ≤ 140737488351232) (h : l.drop a = uv p.length ++ (p ++ t)) : be l a m = 0 ∧ bx l a m = p ∧ bk l a m = (uv p.length ++ p).length := by
  obtain ⟨g1, g2, g3⟩ := g_at (x := p.length) (by omega) h
  have hlen := congrArg List.length h
  rw [List.length_append, List.length_append] at hlen
  have hu : (uv p.length).length = usz p.length := rfl
  have e : gb (l.drop a) m = (p, ((uv p.length ++ p).length : Int), 0) := by
    rw [gb_eq, if_neg (by rw [g1]; simp), if_neg (by rw [g2]; omega)]
    have hgu : gu (l.drop a) = ((p.length : Int), (usz p.length : Int), 0) := by rw [h]; exact gu_uv (by omega) _
    rw [hgu, if_neg (by rw [g2]; dsimp only; omega)]
    dsimp only
    rw [Int.toNat_natCast, Int.toNat_natCast, h, ← List.append_assoc, ← hu, List.take_left' (by rw [List.length_append]), List.drop_left' rfl, List.length_append]
    simp
  unfold be bx bk
  rw [e]
  exact ⟨rfl, rfl, Int.toNat_natCast _⟩
/-- Bytes that are taken, as a text. -/
theorem bytes_step {w0 W : World} {g : Nat} {A : Option Addr} {c : Nat} {l : List Int} {a : Nat} (h : Rd w0 W g A c l a) (m : Int) (hm : m ≤ 9223372036854775807) (he : be l a m = 0) :
    Calls Tryd.prog 21 #[.pointer (some ⟨g, 0, none⟩), .int .i64 m] W fun e w' => ∃ A2 c2, e = .returned (.slice A2 (bx l a m).length c2) ∧ (Kd.int .u8).C w' A2 (bx l a m).length (bx l a m) ∧ Rd w0 w' g A c l (a + bk l a m) ∧ Kp (fun k => k = g) W w' := by
  obtain ⟨eb, h1, h2, -⟩ := b_ok h.by_ h.le he
  refine (bytes_calls h.at_ h.row h.cap h.le h.by_ h.len m hm _ _ eb (by have := h.len; omega)).mono ?_
  rintro e w' ⟨v, w1, rfl, hv, hb, rfl⟩
  have hk1 : Kp (fun k => k = g) W (w1.setCell ⟨g, 1, none⟩ (.int .i64 ((a + bk l a m : Nat) : Int))) := (Kp.of_below hb _).set_g _ _
  obtain ⟨A2, c2, rfl⟩ := Kd.R_slice hv
  refine ⟨A2, c2, rfl, ?_, h.step hk1 ((h.at_.below hb).set _) h2, hk1⟩
  have hx := (h.at_.below hb)
  have hv2 := Kd.R_types hv hx (by decide)
  exact (Kd.R_reads' (Kd.R_far (p := ⟨g, 1, none⟩) hv2 (fun k z => z.2) _)).2.2
theorem bytes_end {w0 W : World} {g : Nat} {A : Option Addr} {c : Nat} {l : List Int} {a : Nat} (h : Rd w0 W g A c l a) (m : Int) (hm : m ≤ 9223372036854775807) (he : be l a m ≠ 0) :
    Calls Tryd.prog 21 #[.pointer (some ⟨g, 0, none⟩), .int .i64 m] W fun e w' => e = .panicked [ends g (be l a m)] ∧ Rd w0 w' g A c l a ∧ Kp (fun k => k = g) W w' := by
  refine (bytes_ends h.at_ h.row h.cap h.le h.by_ h.len m hm _ _ _ (b_err he) he).mono ?_
  rintro e w' ⟨rfl, hb⟩
  exact ⟨rfl, h.below hb, Kp.of_below hb _⟩
theorem nums_size (p : List Int) : (strOfNums p).size = p.length := by
  show (strOfNums p).data.size = _
  rw [← Array.length_toList, strOfNums_data, List.length_map]
end Go.Proofs.YtciolchdihlgfaaDoor.Rd
