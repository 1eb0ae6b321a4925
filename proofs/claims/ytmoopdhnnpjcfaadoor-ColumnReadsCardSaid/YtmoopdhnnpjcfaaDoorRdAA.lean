import Derived.Test.YtmoopdhnnpjcfaaDoorWMore
import Derived.Test.YtmoopdhnnpjcfaaDoorWireSpec2
import Derived.Recover
import Derived.Defers
import Derived.Outline
import Derived.Test.YtmoopdhnnpjcfaaDoorProg
import Derived.Deep.QuietTactic
import Derived.BigQuiet
import Derived.WalkSmall
namespace Go.Proofs.YtmoopdhnnpjcfaaDoor.Rd
open Go.RowKit Go.Proofs.YtmoopdhnnpjcfaaDoorW.PrintWords Go.Proofs.YtmoopdhnnpjcfaaDoorW.PrintLast Go.Proofs.YtmoopdhnnpjcfaaDoorW.PrintMore Go.Proofs.YtmoopdhnnpjcfaaDoor.Wire
set_option linter.unusedVariables false
set_option linter.unusedSimpArgs false

/-! ### What a call keeps -/
/-- All but the blocks of S stands; new ones may have come. -/
structure Kp (S : Nat → Prop) (w w' : World) : Prop where
  os : w'.os = w.os
  tape : w'.tape = w.tape
  output : w'.output = w.output
  size : w.heap.size ≤ w'.heap.size
  block : ∀ k, k < w.heap.size → ¬ S k → w'.heap[k]? = w.heap[k]?
namespace Kp
variable {S S' S2 : Nat → Prop} {w W W2 : World}
theorem refl (S : Nat → Prop) (w : World) : Kp S w w := ⟨rfl, rfl, rfl, Nat.le_refl _, fun _ _ _ => rfl⟩
theorem of_below (h : Below w.heap.size w W) (S : Nat → Prop) : Kp S w W := ⟨h.os, h.tape, h.output, h.size, fun k hk _ => h.block k hk⟩
theorem mono (h : Kp S w W) (hs : ∀ k, S k → S' k) : Kp S' w W := ⟨h.os, h.tape, h.output, h.size, fun k hk hn => h.block k hk (fun z => hn (hs k z))⟩
theorem then_ (h : Kp S w W) (k : Kp S2 W W2) (hs : ∀ k, S2 k → S k ∨ w.heap.size ≤ k) : Kp S w W2 :=
  ⟨k.os.trans h.os, k.tape.trans h.tape, k.output.trans h.output, Nat.le_trans h.size k.size,
   fun i hi hn => (k.block i (Nat.lt_of_lt_of_le hi h.size) (fun z => (hs i z).elim hn (fun y => by omega))).trans (h.block i hi hn)⟩
theorem trans (h : Kp S w W) (k : Kp S W W2) : Kp S w W2 := h.then_ k (fun _ z => .inl z)
theorem below (h : Kp S w W) (k : Below W.heap.size W W2) : Kp S w W2 := h.then_ (Kp.of_below k (fun _ => False)) (fun _ z => z.elim)
theorem alloc (h : Kp S w W) (o : Obj) : Kp S w (W.alloc o) := h.below (below_alloc (Below.refl _ _) o)
theorem drew (h : Kp S w W) : Kp S w W.drew := ⟨h.os, h.tape, h.output, h.size, h.block⟩
theorem drewN (h : Kp S w W) (n : Nat) : Kp S w (W.drewN n) := ⟨h.os, h.tape, h.output, h.size, h.block⟩
theorem setCell (h : Kp S w W) {p : Addr} (hp : S p.block ∨ w.heap.size ≤ p.block) (u : Value) : Kp S w (W.setCell p u) :=
  h.then_ (S2 := fun k => k = p.block) ⟨rfl, rfl, rfl, by simp [World.setCell], fun i _ hn => Below.heap_setCell W p u i hn⟩ (fun k hk => by rw [hk]; exact hp)
theorem to_below (h : Kp S w W) {w0 : World} (hb : Below w0.heap.size w0 w) (hs : ∀ k, S k → w0.heap.size ≤ k) : Below w0.heap.size w0 W :=
  ⟨h.os.trans hb.os, h.tape.trans hb.tape, h.output.trans hb.output, Nat.le_trans hb.size h.size, fun i hi => (h.block i (Nat.lt_of_lt_of_le hi hb.size) (fun z => by have := hs i z; omega)).trans (hb.block i hi)⟩
theorem kept (h : Kp S w W) : Kept w W S := ⟨h.size, h.block⟩
theorem blk (h : Kp S w W) {g : Nat} {o : Obj} (hb : w.heap[g]? = some o) (hn : ¬ S g) : W.heap[g]? = some o := (h.block g (blk_lt hb) hn).trans hb
theorem cell (h : Kp S w W) {a : Addr} {v : Value} (hc : w.cell? a = some v) (hn : ¬ S a.block) : W.cell? a = some v := cell_kept hc h.kept hn
/-- A row that is read, and is none of what is written. -/
theorem row {k : IntKind} {A : Option Addr} {n : Nat} {xs : List Int} (h : Kp S w W) (hc : (Kd.int k).C w A n xs) (hf : ∀ ad, A = some ad → 0 < n → ¬ S ad.block) : (Kd.int k).C W A n xs := by
  have hr := Kd.reads_of_C (enc := Value.int k) (d := (0 : Int)) (h1 := fun _ => rfl) hc
  refine Kd.C_of_reads (d := (0 : Int)) (h1 := fun _ => rfl) ⟨hr.1, hr.2.1, fun hn => ?_⟩
  obtain ⟨ad, e, hcell⟩ := hr.2.2 hn
  exact ⟨ad, e, fun j hj => h.cell (hcell j hj) (by rw [add_block]; exact hf ad e hn)⟩
end Kp

/-! ### A reader -/
/-- The reader's cells, at block g. -/
def At (W : World) (g : Nat) (A : Option Addr) (n c at_ : Nat) (o : Bool) : Prop :=
  W.heap[g]? = some (.cells #[.slice A n c, .int .i64 (at_ : Int), .bool o] 120 (0, 0))
/-- By what a reader ends. -/
def ends (g : Nat) (e : Int) : PanicEntry := { v := .iface 122 (.agg #[.pointer (some ⟨g, 0, none⟩), .int .i64 e]), recovered := false }
theorem At.keep {W W' : World} {g : Nat} {A : Option Addr} {n c a : Nat} {o : Bool} (h : At W g A n c a o) {S : Nat → Prop} (hk : Kp S W W') (hn : ¬ S g) : At W' g A n c a o := hk.blk h hn
theorem At.below {W W' : World} {g : Nat} {A : Option Addr} {n c a : Nat} {o : Bool} (h : At W g A n c a o) (hb : Below W.heap.size W W') : At W' g A n c a o := blk_below h hb
theorem At.drewN {W : World} {g : Nat} {A : Option Addr} {n c a : Nat} {o : Bool} (h : At W g A n c a o) (m : Nat) : At (W.drewN m) g A n c a o := h
theorem At.set {W : World} {g : Nat} {A : Option Addr} {n c a : Nat} {o : Bool} (h : At W g A n c a o) (b : Nat) : At (W.setCell ⟨g, 1, none⟩ (.int .i64 (b : Int))) g A n c b o := blk_put h 1 _ rfl
theorem At.close {W : World} {g : Nat} {A : Option Addr} {n c a : Nat} {o : Bool} (h : At W g A n c a o) : At (W.setCell ⟨g, 2, none⟩ (.bool false)) g A n c a false := blk_put h 2 _ rfl
/-- A row of bytes lies in none of a reader's cells. -/
theorem At.far {W : World} {g : Nat} {A A2 : Option Addr} {n c a n2 : Nat} {o : Bool} {l : List Int} (h : At W g A n c a o) (hc : (Kd.int .u8).C W A2 n2 l) : ∀ ad, A2 = some ad → 0 < n2 → ad.block ≠ g := by
  intro ad e hn hb
  obtain ⟨ad', e', hx⟩ := Kd.at_int hc 0 (Int.le_refl 0) (by omega)
  have : ad' = ad := Option.some.inj (e'.symm.trans e)
  subst this
  obtain ⟨bk, off, sp⟩ := ad'
  dsimp only at hb
  subst hb
  have hr : W.cell? ⟨bk, off, sp⟩ = some (.int .u8 (rd l 0)) := by rw [← hx]; simp [Addr.add]
  cases sp with
  | some q =>
    have hnone : W.cell? ⟨bk, off, some q⟩ = none := by unfold World.cell?; split <;> simp
    rw [hnone] at hr; cases hr
  | none =>
    rw [blk_cell h off] at hr
    rcases off with _ | _ | _ | k <;> simp at hr
end Go.Proofs.YtmoopdhnnpjcfaaDoor.Rd
namespace Go.Proofs.YtmoopdhnnpjcfaaDoor.Rd
open Go.RowKit Go.Proofs.YtmoopdhnnpjcfaaDoorW.PrintWords Go.Proofs.YtmoopdhnnpjcfaaDoorW.PrintLast Go.Proofs.YtmoopdhnnpjcfaaDoorW.PrintMore Go.Proofs.YtmoopdhnnpjcfaaDoor.Wire
set_option linter.unusedVariables false
set_option linter.unusedSimpArgs false
set_option maxRecDepth 100000

section
variable {W : World} {g : Nat} {A : Option Addr} {n c a : Nat} {o : Bool}
theorem live_calls (h : At W g A n c a o) : Calls Tryd.prog 122 #[.pointer (some ⟨g, 0, none⟩)] W fun e w' => e = .returned (.bool o) ∧ W = w' := by
  have c2 : W.cell? ⟨g, 2, none⟩ = some (.bool o) := (blk_cell h 2).trans rfl
  clear h
  go_enter Tryd.func122, Tryd.ntmps122
  go_wp2
  go_ret
  exact ⟨rfl, rfl⟩
theorem live_nil (W : World) : Calls Tryd.prog 122 #[.pointer none] W fun e w' => e = .returned (.bool false) ∧ W = w' := by
  go_enter Tryd.func122, Tryd.ntmps122
  go_wp2
  go_ret
  exact ⟨rfl, rfl⟩
theorem must_fine (h : At W g A n c a o) (ok : Bool) (er : Int) (hf : o = false ∨ ok = true ∨ er = 0) : Calls Tryd.prog 74 #[.pointer (some ⟨g, 0, none⟩), .bool ok, .int .i64 er] W fun e w' => e = .returned (.tuple #[]) ∧ W = w' := by
  have HL := Aside0.mk (live_calls h)
  clear h
  cases o with
  | false =>
    clear hf
    go_enter Tryd.func74, Tryd.ntmps74
    go_wp2_with (go_at_call 122; refine HL.out.mono ?_; rintro e w' ⟨rfl, rfl⟩)
    go_end0
    exact ⟨rfl, rfl⟩
  | true =>
    cases ok with
    | true =>
      clear hf
      go_enter Tryd.func74, Tryd.ntmps74
      go_wp2_with (go_at_call 122; refine HL.out.mono ?_; rintro e w' ⟨rfl, rfl⟩)
      go_end0
      exact ⟨rfl, rfl⟩
    | false =>
      have e0 : er = 0 := hf.resolve_left (by simp) |>.resolve_left (by simp)
      subst e0
      clear hf
      go_enter Tryd.func74, Tryd.ntmps74
      go_wp2_with (go_at_call 122; refine HL.out.mono ?_; rintro e w' ⟨rfl, rfl⟩)
      go_end0
      exact ⟨rfl, rfl⟩
theorem must_nil (W : World) (ok : Bool) (er : Int) : Calls Tryd.prog 74 #[.pointer none, .bool ok, .int .i64 er] W fun e w' => e = .returned (.tuple #[]) ∧ W = w' := by
  go_enter Tryd.func74, Tryd.ntmps74
  go_wp2_with (go_at_call 122; refine (live_nil _).mono ?_; rintro e w' ⟨rfl, rfl⟩)
  go_end0
  exact ⟨rfl, rfl⟩
theorem must_ends (h : At W g A n c a true) (er : Int) (he : er ≠ 0) : Calls Tryd.prog 74 #[.pointer (some ⟨g, 0, none⟩), .bool false, .int .i64 er] W fun e w' => e = .panicked [ends g er] ∧ W = w' := by
  have HL := Aside0.mk (live_calls h)
  have t1 : (er != 0) = true := bne_iff_ne.mpr he
  have t2 : (er == 0) = false := beq_eq_false_iff_ne.mpr he
  clear h he
  go_enter Tryd.func74, Tryd.ntmps74
  go_wp2_with (go_at_call 122; refine HL.out.mono ?_; rintro e w' ⟨rfl, rfl⟩)
  (try simp only [Exit.inBlock, Exit.then])
  exact ⟨rfl, rfl, rfl⟩
theorem left_calls (h : At W g A n c a true) (ha : a ≤ n) (hn : n ≤ 9223372036854775807) : Calls Tryd.prog 136 #[.pointer (some ⟨g, 0, none⟩)] W fun e w' => e = .returned (.int .i64 ((n - a : Nat) : Int)) ∧ ∃ m, w' = W.drewN m := by
  have HL := Aside0.mk (live_calls h)
  have c0 : W.cell? ⟨g, 0, none⟩ = some (.slice A n c) := (blk_cell h 0).trans rfl
  have c1 : W.cell? ⟨g, 1, none⟩ = some (.int .i64 (a : Int)) := (blk_cell h 1).trans rfl
  clear h
  have HE := Aside0.mk (show ((n - a : Nat) : Int) = (n : Int) - (a : Int) by omega)
  go_enter Tryd.func136, Tryd.ntmps136
  go_wp2_with (go_at_call 122; refine HL.out.mono ?_; rintro e w' ⟨rfl, rfl⟩)
  go_quiet (fail)
  go_wp2
  go_ret
  exact ⟨by rw [HE.out]; rfl, _, rfl⟩
theorem left_closed (h : At W g A n c a false) : Calls Tryd.prog 136 #[.pointer (some ⟨g, 0, none⟩)] W fun e w' => e = .returned (.int .i64 0) ∧ W = w' := by
  have HL := Aside0.mk (live_calls h)
  clear h
  go_enter Tryd.func136, Tryd.ntmps136
  go_wp2_with (go_at_call 122; refine HL.out.mono ?_; rintro e w' ⟨rfl, rfl⟩)
  go_ret
  exact ⟨rfl, rfl⟩
theorem left_nil (W : World) : Calls Tryd.prog 136 #[.pointer none] W fun e w' => e = .returned (.int .i64 0) ∧ W = w' := by
  go_enter Tryd.func136, Tryd.ntmps136
  go_wp2_with (go_at_call 122; refine (live_nil _).mono ?_; rintro e w' ⟨rfl, rfl⟩)
  go_ret
  exact ⟨rfl, rfl⟩
theorem take_calls (h : At W g A n c a true) (k : Nat) (hk : a + k ≤ 9223372036854775807) : Calls Tryd.prog 134 #[.pointer (some ⟨g, 0, none⟩), .int .i64 (k : Int), .int .i64 0] W fun e w' => e = .returned (.tuple #[]) ∧ w' = W.setCell ⟨g, 1, none⟩ (.int .i64 ((a + k : Nat) : Int)) := by
  have HM := Aside0.mk (must_fine h true 0 (.inr (.inl rfl)))
  have c1 : W.cell? ⟨g, 1, none⟩ = some (.int .i64 (a : Int)) := (blk_cell h 1).trans rfl
  have f1 := blk_frozen h 1
  clear h
  go_enter Tryd.func134, Tryd.ntmps134
  go_wp2_with (go_at_call 74; refine HM.out.mono ?_; rintro e w' ⟨rfl, rfl⟩)
  go_end0
  exact ⟨rfl, by simp⟩
theorem take_ends (h : At W g A n c a true) (k : Int) (er : Int) (he : er ≠ 0) : Calls Tryd.prog 134 #[.pointer (some ⟨g, 0, none⟩), .int .i64 k, .int .i64 er] W fun e w' => e = .panicked [ends g er] ∧ W = w' := by
  have HM := Aside0.mk (must_ends h er he)
  have t2 : (er == 0) = false := beq_eq_false_iff_ne.mpr he
  clear h he
  go_enter Tryd.func134, Tryd.ntmps134
  go_wp2_with (go_at_call 74; refine HM.out.mono ?_; rintro e w' ⟨rfl, rfl⟩)
  (try simp only [Exit.inBlock, Exit.then])
  exact ⟨rfl, rfl, rfl⟩
theorem byte_calls {l : List Int} (h : At W g A l.length c a true) (hC : (Kd.int .u8).C W A l.length l) (ha : a < l.length) : Calls Tryd.prog 102 #[.pointer (some ⟨g, 0, none⟩)] W fun e w' => e = .returned (.int .u8 (rd l (a : Int))) ∧ ∃ m, w' = (W.drewN m).setCell ⟨g, 1, none⟩ (.int .i64 ((a + 1 : Nat) : Int)) := by
  have hn : l.length ≤ 9223372036854775807 := hC.2.1
  have HL := Aside0.mk (live_calls h)
  have HF := Aside0.mk (left_calls h (Nat.le_of_lt ha) hn)
  have HX := Aside0.mk (show ∀ m, Calls Tryd.prog 74 #[.pointer (some ⟨g, 0, none⟩), .bool true, .int .i64 5] (W.drewN m) _ from fun m => must_fine (h.drewN m) true 5 (.inr (.inl rfl)))
  have HT := Aside0.mk (show ∀ m, Calls Tryd.prog 134 #[.pointer (some ⟨g, 0, none⟩), .int .i64 ((1 : Nat) : Int), .int .i64 0] (W.drewN m) _ from fun m => take_calls (h.drewN m) 1 (by omega))
  have c0 : W.cell? ⟨g, 0, none⟩ = some (.slice A l.length c) := (blk_cell h 0).trans rfl
  have c1 : W.cell? ⟨g, 1, none⟩ = some (.int .i64 (a : Int)) := (blk_cell h 1).trans rfl
  obtain ⟨ad, e, hx⟩ := Kd.at_int hC (a : Int) (by omega) (by omega)
  subst e
  rw [Int.toNat_natCast] at hx
  have hp : 0 < l.length - a := by omega
  have t0 : decide ((0 : Int) < ((l.length - a : Nat) : Int)) = true := decide_eq_true (by omega)
  have t1 : decide (0 < l.length - a) = true := decide_eq_true hp
  have p1 : (0 ≤ (a : Int)) = True := eq_true (by omega)
  have p2 : ((a : Int) < (l.length : Int)) = True := eq_true (by omega)
  have p3 : (a < l.length) = True := eq_true ha
  clear h hC ha hn hp
  generalize hK : l.length - a = K at *
  clear hK
  go_enter Tryd.func102, Tryd.ntmps102
  go_wp2_with (first | (go_at_call 122; refine HL.out.mono ?_; rintro e w' ⟨rfl, rfl⟩) | (go_at_call 136; refine HF.out.mono ?_; rintro e w' ⟨rfl, m, rfl⟩) | (go_at_call 74; refine (HX.out _).mono ?_; rintro e w' ⟨rfl, rfl⟩))
  go_quiet (fail)
  go_wp2_with (go_at_call 134; refine (HT.out _).mono ?_; rintro e w' ⟨rfl, rfl⟩)
  go_ret
  exact ⟨rfl, _, rfl⟩
theorem byte_ends {l : List Int} (h : At W g A l.length c l.length true) (hn : l.length ≤ 9223372036854775807) : Calls Tryd.prog 102 #[.pointer (some ⟨g, 0, none⟩)] W fun e w' => e = .panicked [ends g 5] ∧ ∃ m, w' = W.drewN m := by
  have HL := Aside0.mk (live_calls h)
  have HF := Aside0.mk (left_calls h (Nat.le_refl _) hn)
  have HX := Aside0.mk (show ∀ m, Calls Tryd.prog 74 #[.pointer (some ⟨g, 0, none⟩), .bool false, .int .i64 5] (W.drewN m) _ from fun m => must_ends (h.drewN m) 5 (by decide))
  rw [Nat.sub_self] at HF
  clear h hn
  go_enter Tryd.func102, Tryd.ntmps102
  go_wp2_with (first | (go_at_call 122; refine HL.out.mono ?_; rintro e w' ⟨rfl, rfl⟩) | (go_at_call 136; refine HF.out.mono ?_; rintro e w' ⟨rfl, m, rfl⟩) | (go_at_call 74; refine (HX.out _).mono ?_; rintro e w' ⟨rfl, rfl⟩))
  (try simp only [Exit.inBlock, Exit.then])
  exact ⟨rfl, rfl, _, rfl⟩
theorem byte_closed (h : At W g A n c a false) : Calls Tryd.prog 102 #[.pointer (some ⟨g, 0, none⟩)] W fun e w' => e = .returned (.int .u8 0) ∧ W = w' := by
  have HL := Aside0.mk (live_calls h)
  clear h
  go_enter Tryd.func102, Tryd.ntmps102
  go_wp2_with (go_at_call 122; refine HL.out.mono ?_; rintro e w' ⟨rfl, rfl⟩)
  go_ret
  exact ⟨rfl, rfl⟩
theorem byte_nil (W : World) : Calls Tryd.prog 102 #[.pointer none] W fun e w' => e = .returned (.int .u8 0) ∧ W = w' := by
  go_enter Tryd.func102, Tryd.ntmps102
  go_wp2_with (go_at_call 122; refine (live_nil _).mono ?_; rintro e w' ⟨rfl, rfl⟩)
  go_ret
  exact ⟨rfl, rfl⟩
end
end Go.Proofs.YtmoopdhnnpjcfaaDoor.Rd
