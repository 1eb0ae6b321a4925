import Derived.Test.YtamnnaadnjkdiaaWMore
import Derived.Test.YtamnnaadnjkdiaaWireSpec2
import Derived.Recover
import Derived.Defers
import Derived.Outline
import Derived.Test.YtamnnaadnjkdiaaProg
namespace Go.Proofs.Ytamnnaadnjkdiaa.Rd
open Go.RowKit Go.Proofs.YtamnnaadnjkdiaaW.PrintWords Go.Proofs.YtamnnaadnjkdiaaW.PrintLast Go.Proofs.YtamnnaadnjkdiaaW.PrintMore Go.Proofs.Ytamnnaadnjkdiaa.Wire
set_option linter.unusedVariables false
set_option linter.unusedSimpArgs false

/-! ### What a call keeps -/
/-- All but the blocks of S stands; new ones may have come. -/
structure Kp (S : Nat → Prop) (w w' : World) : Prop where
  os : w'.os = w.os
  tape : w'.tape = w.tape
  output : w'.output = w.output
  size : w.heap.size ≤ w'.heap.size
  block : ∀ k, k < w.heap.size → ¬ S k → w'.heap[k]? = w.heap[k]?
namespace Kp
variable {S S' S2 : Nat → Prop} {w W W2 : World}
theorem refl (S : Nat → Prop) (w : World) : Kp S w w := ⟨rfl, rfl, rfl, Nat.le_refl _, fun _ _ _ => rfl⟩
theorem of_below (h : Below w.heap.size w W) (S : Nat → Prop) : Kp S w W := ⟨h.os, h.tape, h.output, h.size, fun k hk _ => h.block k hk⟩
theorem mono (h : Kp S w W) (hs : ∀ k, S k → S' k) : Kp S' w W := ⟨h.os, h.tape, h.output, h.size, fun k hk hn => h.block k hk (fun z => hn (hs k z))⟩
theorem then_ (h : Kp S w W) (k : Kp S2 W W2) (hs : ∀ k, S2 k → S k ∨ w.heap.size ≤ k) : Kp S w W2 :=
  ⟨k.os.trans h.os, k.tape.trans h.tape, k.output.trans h.output, Nat.le_trans h.size k.size,
   fun i hi hn => (k.block i (Nat.lt_of_lt_of_le hi h.size) (fun z => (hs i z).elim hn (fun y => by omega))).trans (h.block i hi hn)⟩
theorem trans (h : Kp S w W) (k : Kp S W W2) : Kp S w W2 := h.then_ k (fun _ z => .inl z)
theorem below (h : Kp S w W) (k : Below W.heap.size W W2) : Kp S w W2 := h.then_ (Kp.of_below k (fun _ => False)) (fun _ z => z.elim)
theorem alloc (h : Kp S w W) (o : Obj) : Kp S w (W.alloc o) := h.below (below_alloc (Below.refl _ _) o)
theorem drew (h : Kp S w W) : Kp S w W.drew := ⟨h.os, h.tape, h.output, h.size, h.block⟩
theorem drewN (h : Kp S w W) (n : Nat) : Kp S w (W.drewN n) := ⟨h.os, h.tape, h.output, h.size, h.block⟩
theorem setCell (h : Kp S w W) {p : Addr} (hp : S p.block ∨ w.heap.size ≤ p.block) (u : Value) : Kp S w (W.setCell p u) :=
  h.then_ (S2 := fun k => k = p.block) ⟨rfl, rfl, rfl, by simp [World.setCell], fun i _ hn => Below.heap_setCell W p u i hn⟩ (fun k hk => by rw [hk]; exact hp)
theorem to_below (h : Kp S w W) {w0 : World} (hb : Below w0.heap.size w0 w) (hs : ∀ k, S k → w0.heap.size ≤ k) : Below w0.heap.size w0 W :=
  ⟨h.os.trans hb.os, h.tape.trans hb.tape, h.output.trans hb.output, Nat.le_trans hb.size h.size, fun i hi => (h.block i (Nat.lt_of_lt_of_le hi hb.size) (fun z => by have := hs i z; omega)).trans (hb.block i hi)⟩
theorem kept (h : Kp S w W) : Kept w W S := ⟨h.size, h.block⟩
theorem blk (h : Kp S w W) {g : Nat} {o : Obj} (hb : w.heap[g]? = some o) (hn : ¬ S g) : W.heap[g]? = some o := (h.block g (blk_lt hb) hn).trans hb
theorem cell (h : Kp S w W) {a : Addr} {v : Value} (hc : w.cell? a = some v) (hn : ¬ S a.block) : W.cell? a = some v := cell_kept hc h.kept hn
/-- A row that is read, and is none of what is written. -/
theorem row {k : IntKind} {A : Option Addr} {n : Nat} {xs : List Int} (h : Kp S w W) (hc : (Kd.int k).C w A n xs) (hf : ∀ ad, A = some ad → 0 < n → ¬ S ad.block) : (Kd.int k).C W A n xs := by
  have hr := Kd.reads_of_C (enc := Value.int k) (d := (0 : Int)) (h1 := fun _ => rfl) hc
  refine Kd.C_of_reads (d := (0 : Int)) (h1 := fun _ => rfl) ⟨hr.1, hr.2.1, fun hn => ?_⟩
  obtain ⟨ad, e, hcell⟩ := hr.2.2 hn
  exact ⟨ad, e, fun j hj => h.cell (hcell j hj) (by rw [add_block]; exact hf ad e hn)⟩
end Kp

/-! ### A reader -/
/-- The reader's cells, at block g. -/
def At (W : World) (g : Nat) (A : Option Addr) (n c at_ : Nat) (o : Bool) : Prop :=
  W.heap[g]? = some (.cells #[.slice A n c, .int .i64 (at_ : Int), .bool o] 85 (0, 0))
/-- By what a reader ends. -/
def ends (g : Nat) (e : Int) : PanicEntry := { v := .iface 87 (.agg #[.pointer (some ⟨g, 0, none⟩), .int .i64 e]), recovered := false }
theorem At.keep {W W' : World} {g : Nat} {A : Option Addr} {n c a : Nat} {o : Bool} (h : At W g A n c a o) {S : Nat → Prop} (hk : Kp S W W') (hn : ¬ S g) : At W' g A n c a o := hk.blk h hn
theorem At.below {W W' : World} {g : Nat} {A : Option Addr} {n c a : Nat} {o : Bool} (h : At W g A n c a o) (hb : Below W.heap.size W W') : At W' g A n c a o := blk_below h hb
theorem At.drewN {W : World} {g : Nat} {A : Option Addr} {n c a : Nat} {o : Bool} (h : At W g A n c a o) (m : Nat) : At (W.drewN m) g A n c a o := h
theorem At.set {W : World} {g : Nat} {A : Option Addr} {n c a : Nat} {o : Bool} (h : At W g A n c a o) (b : Nat) : At (W.setCell ⟨g, 1, none⟩ (.int .i64 (b : Int))) g A n c b o := blk_put h 1 _ rfl
theorem At.close {W : World} {g : Nat} {A : Option Addr} {n c a : Nat} {o : Bool} (h : At W g A n c a o) : At (W.setCell ⟨g, 2, none⟩ (.bool false)) g A n c a false := blk_put h 2 _ rfl
/-- A row of bytes lies in none of a reader's cells. -/
theorem At.far {W : World} {g : Nat} {A A2 : Option Addr} {n c a n2 : Nat} {o : Bool} {l : List Int} (h : At W g A n c a o) (hc : (Kd.int .u8).C W A2 n2 l) : ∀ ad, A2 = some ad → 0 < n2 → ad.block ≠ g := by
  intro ad e hn hb
  obtain ⟨ad', e', hx⟩ := Kd.at_int hc 0 (Int.le_refl 0) (by omega)
  have : ad' = ad := Option.some.inj (e'.symm.trans e)
  subst this
  obtain ⟨bk, off, sp⟩ := ad'
  dsimp only at hb
  subst hb
  have hr : W.cell? ⟨bk, off, sp⟩ = some (.int .u8 (rd l 0)) := by rw [← hx]; simp [Addr.add]
  cases sp with
  | some q =>
    have hnone : W.cell? ⟨bk, off, some q⟩ = none := by unfold World.cell?; split <;> simp
    rw [hnone] at hr; cases hr
  | none =>
    rw [blk_cell h off] at hr
    rcases off with _ | _ | _ | k <;> simp at hr
end Go.Proofs.Ytamnnaadnjkdiaa.Rd
