import Derived.Test.YtmoopdhnnpjcfaaDoorRdCC
import Derived.Test.YtmoopdhnnpjcfaaDoorRdE
namespace Go.Proofs.YtmoopdhnnpjcfaaDoor.Rd
open Go.RowKit Go.Proofs.YtmoopdhnnpjcfaaDoorW.PrintWords Go.Proofs.YtmoopdhnnpjcfaaDoorW.PrintLast Go.Proofs.YtmoopdhnnpjcfaaDoorW.PrintMore Go.Proofs.YtmoopdhnnpjcfaaDoor.Wire Go.Proofs.YtmoopdhnnpjcfaaDoor.PCo Go.Proofs.YtmoopdhnnpjcfaaDoor.CoG
set_option linter.unusedVariables false
set_option linter.unusedSimpArgs false
set_option maxRecDepth 100000

theorem Kp.set_g {g : Nat} {w W : World} (h : Kp (fun k => k = g) w W) (j : Nat) (u : Value) : Kp (fun k => k = g) w (W.setCell ⟨g, j, none⟩ u) := h.setCell (p := ⟨g, j, none⟩) (.inl rfl) u
/-- A reader over the bytes l, which stood at w0; a of them are taken. -/
structure Rd (w0 W : World) (g : Nat) (A : Option Addr) (c : Nat) (l : List Int) (a : Nat) : Prop where
  at_ : At W g A l.length c a true
  base : Below w0.heap.size w0 W
  old : w0.heap.size ≤ g
  row0 : (Kd.int .u8).C w0 A l.length l
  cap : l.length ≤ c
  le : a ≤ l.length
  by_ : Bytes l
  len : l.length ≤ 140737488351232
namespace Rd
variable {w0 W W' : World} {g : Nat} {A : Option Addr} {c : Nat} {l : List Int} {a : Nat}
theorem row (h : Rd w0 W g A c l a) : (Kd.int .u8).C W A l.length l := Kd.C_below h.row0 h.base
theorem step (h : Rd w0 W g A c l a) (hk : Kp (fun k => k = g) W W') {b : Nat} (hat : At W' g A l.length c b true) (hb : b ≤ l.length) : Rd w0 W' g A c l b :=
  ⟨hat, hk.to_below h.base (fun k z => by rw [z]; exact h.old), h.old, h.row0, h.cap, hb, h.by_, h.len⟩
theorem keep (h : Rd w0 W g A c l a) {S : Nat → Prop} (hk : Kp S W W') (hs : ∀ k, S k → w0.heap.size ≤ k ∧ k ≠ g) : Rd w0 W' g A c l a :=
  ⟨h.at_.keep hk (fun z => (hs g z).2 rfl), hk.to_below h.base (fun k z => (hs k z).1), h.old, h.row0, h.cap, h.le, h.by_, h.len⟩
theorem below (h : Rd w0 W g A c l a) (hb : Below W.heap.size W W') : Rd w0 W' g A c l a := h.keep (Kp.of_below hb (fun _ => False)) (fun _ z => z.elim)
theorem gu_fit (h : Rd w0 W g A c l a) {x k : Int} (hg : gu (l.drop a) = (x, k, 0)) : ∃ n : Nat, k = n ∧ a + n ≤ l.length ∧ 0 ≤ x ∧ x < 18446744073709551616 := by
  obtain ⟨y, hx1, hx2, hx3, hx4, hx5, e⟩ := gu_ok (h.by_.drop a) (by rw [hg])
  rw [hg] at e
  injection e with e1 e2
  injection e2 with e2 e3
  subst e1 e2
  have := hx4
  rw [List.length_drop] at *
  exact ⟨usz y, rfl, by have := h.le; omega, by omega, by omega⟩
theorem byte_step (h : Rd w0 W g A c l a) (ha : a < l.length) : Calls Tryd.prog 102 #[.pointer (some ⟨g, 0, none⟩)] W fun e w' => e = .returned (.int .u8 (rd l (a : Int))) ∧ Rd w0 w' g A c l (a + 1) ∧ Kp (fun k => k = g) W w' := by
  refine (byte_calls h.at_ h.row ha).mono ?_
  rintro e w' ⟨rfl, m, rfl⟩
  have hk : Kp (fun k => k = g) W ((W.drewN m).setCell ⟨g, 1, none⟩ (.int .i64 ((a + 1 : Nat) : Int))) := ((Kp.refl _ W).drewN m).set_g _ _
  exact ⟨rfl, h.step hk ((h.at_.drewN m).set (a + 1)) ha, hk⟩
theorem byte_end (h : Rd w0 W g A c l l.length) : Calls Tryd.prog 102 #[.pointer (some ⟨g, 0, none⟩)] W fun e w' => e = .panicked [ends g 5] ∧ Rd w0 w' g A c l l.length ∧ Kp (fun k => k = g) W w' := by
  refine (byte_ends h.at_ (by have := h.len; omega)).mono ?_
  rintro e w' ⟨rfl, m, rfl⟩
  have hk : Kp (fun k => k = g) W (W.drewN m) := (Kp.refl _ W).drewN m
  exact ⟨rfl, h.step hk (h.at_.drewN m) (Nat.le_refl _), hk⟩
theorem uint_step (h : Rd w0 W g A c l a) (most x : Int) (k : Nat) (hg : gu (l.drop a) = (x, (k : Int), 0)) (hx : x ≤ most) : Calls Tryd.prog 100 #[.pointer (some ⟨g, 0, none⟩), .int .u64 most] W fun e w' => e = .returned (.int .u64 x) ∧ Rd w0 w' g A c l (a + k) ∧ Kp (fun k => k = g) W w' := by
  obtain ⟨n, e, hn, -, -⟩ := h.gu_fit hg
  obtain rfl : k = n := by omega
  refine (uint_calls h.at_ h.row h.cap h.le h.by_ most x k hg hx (by have := h.len; omega)).mono ?_
  rintro e w' ⟨rfl, w1, hb, rfl⟩
  have hk : Kp (fun k => k = g) W (w1.setCell ⟨g, 1, none⟩ (.int .i64 ((a + k : Nat) : Int))) := (Kp.of_below hb _).set_g _ _
  exact ⟨rfl, h.step hk ((h.at_.below hb).set (a + k)) hn, hk⟩
theorem uint_end (h : Rd w0 W g A c l a) (most x k er : Int) (hg : gu (l.drop a) = (x, k, er)) (he : er ≠ 0 ∨ most < x) : Calls Tryd.prog 100 #[.pointer (some ⟨g, 0, none⟩), .int .u64 most] W fun e w' => e = .panicked [ends g (if er = 0 then 3 else er)] ∧ Rd w0 w' g A c l a ∧ Kp (fun k => k = g) W w' := by
  refine (uint_ends h.at_ h.row h.cap h.le h.by_ most x k er hg he).mono ?_
  rintro e w' ⟨rfl, hb⟩
  exact ⟨rfl, h.below hb, Kp.of_below hb _⟩
theorem int_step (h : Rd w0 W g A c l a) (x : Int) (k : Nat) (hg : gu (l.drop a) = (x, (k : Int), 0)) : Calls Tryd.prog 170 #[.pointer (some ⟨g, 0, none⟩)] W fun e w' => e = .returned (.int .i64 (zagS x)) ∧ Rd w0 w' g A c l (a + k) ∧ Kp (fun k => k = g) W w' := by
  obtain ⟨n, e, hn, h0, h1⟩ := h.gu_fit hg
  obtain rfl : k = n := by omega
  refine (int_calls h.at_ h.row h.cap h.le h.by_ x k hg h0 h1 (by have := h.len; omega)).mono ?_
  rintro e w' ⟨rfl, w1, m, hb, rfl⟩
  have hk : Kp (fun k => k = g) W ((w1.setCell ⟨g, 1, none⟩ (.int .i64 ((a + k : Nat) : Int))).drewN m) := ((Kp.of_below hb _).set_g _ _).drewN m
  exact ⟨rfl, h.step hk (((h.at_.below hb).set (a + k)).drewN m) hn, hk⟩
theorem int_end (h : Rd w0 W g A c l a) (x k er : Int) (hg : gu (l.drop a) = (x, k, er)) (he : er ≠ 0) : Calls Tryd.prog 170 #[.pointer (some ⟨g, 0, none⟩)] W fun e w' => e = .panicked [ends g er] ∧ Rd w0 w' g A c l a ∧ Kp (fun k => k = g) W w' := by
  refine (int_ends h.at_ h.row h.cap h.le h.by_ x k er hg he).mono ?_
  rintro e w' ⟨rfl, hb⟩
  exact ⟨rfl, h.below hb, Kp.of_below hb _⟩
theorem must_step (h : Rd w0 W g A c l a) (ok : Bool) (er : Int) (hf : ok = true ∨ er = 0) : Calls Tryd.prog 74 #[.pointer (some ⟨g, 0, none⟩), .bool ok, .int .i64 er] W fun e w' => e = .returned (.tuple #[]) ∧ Rd w0 w' g A c l a ∧ Kp (fun k => k = g) W w' := by
  refine (must_fine h.at_ ok er (.inr hf)).mono ?_
  rintro e w' ⟨rfl, rfl⟩
  exact ⟨rfl, h, Kp.refl _ _⟩
theorem must_end (h : Rd w0 W g A c l a) (er : Int) (he : er ≠ 0) : Calls Tryd.prog 74 #[.pointer (some ⟨g, 0, none⟩), .bool false, .int .i64 er] W fun e w' => e = .panicked [ends g er] ∧ Rd w0 w' g A c l a ∧ Kp (fun k => k = g) W w' := by
  refine (must_ends h.at_ er he).mono ?_
  rintro e w' ⟨rfl, rfl⟩
  exact ⟨rfl, h, Kp.refl _ _⟩
end Rd
/-- Run, of a function that keeps to the state of above. -/
theorem run_rd {w0 W : World} {A : Option Addr} {c : Nat} {l : List Int} {fn : Nat} {caps : Array Value} (Sx : Nat → Prop) (Done : Nat → Nat → Nat → World → Prop) (Ended : Nat → Nat → Nat → Int → World → Prop)
    (base : Below w0.heap.size w0 W) (row : (Kd.int .u8).C w0 A l.length l) (cap : l.length ≤ c) (hby : Bytes l) (hl : l.length ≤ 140737488351232)
    (hS : ∀ k, Sx k → k < W.heap.size) (hcf : ∀ args w, (callFunc fn args).run Tryd.prog w = .ok (.enter fn args) w)
    (hf : ∀ g W1, Rd w0 W1 g A c l 0 → Below W.heap.size W W1 → W.heap.size ≤ g → g < W1.heap.size →
      Calls Tryd.prog fn (#[.pointer (some ⟨g, 0, none⟩)] ++ caps) W1 (Left_ Sx g A l.length c W1 (Done g W1.heap.size) (Ended g W1.heap.size))) :
    Calls Tryd.prog 27 #[.slice A l.length c, .func (.func fn) #[] caps] W fun e w' => ∃ g h1 a er w1, e = .returned (.tuple #[.int .i64 ((a : Nat) : Int), .int .i64 er]) ∧ W.heap.size ≤ g ∧ g < h1 ∧ h1 ≤ w1.heap.size ∧ Kp Sx W w' ∧ Kp (fun k => W.heap.size ≤ k ∧ k < h1) w1 w' ∧ At w' g A l.length c a false ∧ a ≤ l.length ∧
      ((Done g h1 a w1 ∧ er = (if a < l.length then 7 else 0)) ∨ Ended g h1 a er w1) :=
  run_calls Sx Done Ended (by omega) hS hcf (fun g W1 hat hb h1 h2 => hf g W1 ⟨hat, base.trans (hb.mono base.size), Nat.le_trans base.size h1, row, cap, Nat.zero_le _, hby, hl⟩ hb h1 h2)
end Go.Proofs.YtmoopdhnnpjcfaaDoor.Rd
