import Derived.Test.YtamnnaadnjkdiaaRdG
import Derived.Test.YtamnnaadnjkdiaaQTail
import Derived.Test.YtamnnaadnjkdiaaPRfx
import Derived.Deep.LoopGhost
/-! ReaderActs: the closure's state: the reader, the document's one, and what was captured. -/
namespace Go.Proofs.Ytamnnaadnjkdiaa.Rd
open Go.RowKit Go.Proofs.YtamnnaadnjkdiaaW.PrintWords Go.Proofs.YtamnnaadnjkdiaaW.PrintLast Go.Proofs.YtamnnaadnjkdiaaW.PrintMore Go.Proofs.Ytamnnaadnjkdiaa.Wire
set_option linter.unusedVariables false
set_option linter.unusedSimpArgs false
set_option maxRecDepth 100000

abbrev IsM (w0 W : World) (h : Nat) (l : List Int) (b er : Int) : Prop := PRf.IsS38 w0 W h l b er
theorem kp_of_keep {w0 w w' : World} {h : Nat} (hb : Below w0.heap.size w0 w) (hb' : Below w0.heap.size w0 w') (hk : KeepBut w w' h none) : Kp (fun k => k = h) w w' :=
  ⟨hb'.os.trans hb.os.symm, hb'.tape.trans hb.tape.symm, hb'.output.trans hb.output.symm, hk.1, fun k hk1 hn => hk.2 k hk1 hn (by simp)⟩
/-- The blocks. -/
structure Env where
  g : Nat
  h : Nat
  bg : Nat
  bl : Nat
  bd : Nat
  bm : Nat
  bb : Nat
  bo : Nat
  A : Option Addr
  c : Nat
  l : List Int
  A1 : Option Addr
  n1 : Nat
  c1 : Nat
/-- What may turn beside the reader. -/
def Env.Sx (E : Env) (k : Nat) : Prop := k = E.bg ∨ k = E.bd ∨ k = E.bo ∨ k = E.h
structure St (w0 W1 W : World) (E : Env) (a : Nat) (b er : Int) (good : Bool) (done : Int) (over : Bool) : Prop where
  r : Rd w0 W E.g E.A E.c E.l a
  m : IsM w0 W E.h E.l b er
  good_ : W.heap[E.bg]? = some (.cells #[.bool good] 4 (0, 0))
  list : W.heap[E.bl]? = some (.cells #[.slice E.A1 E.n1 E.c1] 35 (0, 0))
  done_ : W.heap[E.bd]? = some (.cells #[.int .i64 done] 3 (0, 0))
  ptr : W.heap[E.bm]? = some (.cells #[.pointer (some ⟨E.h, 0, none⟩)] 36 (0, 0))
  row : W.heap[E.bb]? = some (.cells #[.slice E.A E.l.length E.c] 22 (0, 0))
  over_ : W.heap[E.bo]? = some (.cells #[.bool over] 4 (0, 0))
  ne : E.g ≠ E.bg ∧ E.g ≠ E.bl ∧ E.g ≠ E.bd ∧ E.g ≠ E.bm ∧ E.g ≠ E.bb ∧ E.g ≠ E.bo ∧ E.g ≠ E.h ∧ E.bg ≠ E.bo
  old : w0.heap.size ≤ E.bg ∧ w0.heap.size ≤ E.bd ∧ w0.heap.size ≤ E.bo
  kp : Kp (fun k => k = E.g ∨ E.Sx k) W1 W
namespace St
variable {w0 W1 W W' : World} {E : Env} {a : Nat} {b er : Int} {good : Bool} {done : Int} {over : Bool}
theorem mb (h : St w0 W1 W E a b er good done over) : ∃ A c, W.heap[E.h]? = some (.cells #[.slice A E.l.length c, .int .i64 b, .int .i64 er] 38 (0, 0)) := by
  obtain ⟨A, c, hb, -⟩ := h.m
  exact ⟨A, c, hb⟩
theorem hne (h : St w0 W1 W E a b er good done over) : E.h ≠ E.bg ∧ E.h ≠ E.bl ∧ E.h ≠ E.bd ∧ E.h ≠ E.bm ∧ E.h ≠ E.bb ∧ E.h ≠ E.bo := by
  obtain ⟨A, c, hb⟩ := h.mb
  exact ⟨blk_ne hb h.good_ (by decide), blk_ne hb h.list (by decide), blk_ne hb h.done_ (by decide), blk_ne hb h.ptr (by decide), blk_ne hb h.row (by decide), blk_ne hb h.over_ (by decide)⟩
theorem below (h : St w0 W1 W E a b er good done over) (hb : Below W.heap.size W W') : St w0 W1 W' E a b er good done over :=
  ⟨h.r.below hb, PRf.IsS38.below h.m hb, blk_below h.good_ hb, blk_below h.list hb, blk_below h.done_ hb, blk_below h.ptr hb, blk_below h.row hb, blk_below h.over_ hb, h.ne, h.old, h.kp.below hb⟩
theorem rstep (h : St w0 W1 W E a b er good done over) {a' : Nat} (hr : Rd w0 W' E.g E.A E.c E.l a') (hk : Kp (fun k => k = E.g) W W') : St w0 W1 W' E a' b er good done over := by
  obtain ⟨n1, n2, n3, n4, n5, n6, n7, n8⟩ := h.ne
  exact ⟨hr, PRf.IsS38.kept h.m hk.kept (fun z => n7 z.symm), hk.blk h.good_ (fun z => n1 z.symm), hk.blk h.list (fun z => n2 z.symm), hk.blk h.done_ (fun z => n3 z.symm), hk.blk h.ptr (fun z => n4 z.symm), hk.blk h.row (fun z => n5 z.symm), hk.blk h.over_ (fun z => n6 z.symm), h.ne, h.old, h.kp.trans (hk.mono (fun k z => .inl z))⟩
theorem mstep (h : St w0 W1 W E a b er good done over) {b' er' : Int} (hm : IsM w0 W' E.h E.l b' er') (hb : Below w0.heap.size w0 W') (hkb : KeepBut W W' E.h none) : St w0 W1 W' E a b' er' good done over := by
  obtain ⟨n1, n2, n3, n4, n5, n6⟩ := h.hne
  have hk := kp_of_keep h.r.base hb hkb
  exact ⟨h.r.keep hk (fun k z => by rw [z]; exact ⟨PRf.IsS38.ge h.m, h.ne.2.2.2.2.2.2.1.symm⟩), hm, hk.blk h.good_ n1.symm, hk.blk h.list n2.symm, hk.blk h.done_ n3.symm, hk.blk h.ptr n4.symm, hk.blk h.row n5.symm, hk.blk h.over_ n6.symm, h.ne, h.old, h.kp.trans (hk.mono (fun k z => .inr (.inr (.inr (.inr z)))))⟩
theorem set_ (h : St w0 W1 W E a b er good done over) {x : Nat} (j : Nat) (u : Value) (hx : w0.heap.size ≤ x) (hg : E.g ≠ x) (hh : E.h ≠ x) : Rd w0 (W.setCell ⟨x, j, none⟩ u) E.g E.A E.c E.l a ∧ IsM w0 (W.setCell ⟨x, j, none⟩ u) E.h E.l b er :=
  ⟨h.r.keep (S := fun k => k = x) ((Kp.refl (fun k => k = x) W).setCell (p := ⟨x, j, none⟩) (.inl rfl) u) (fun k z => by rw [z]; exact ⟨hx, hg.symm⟩), PRf.IsS38.far (p := ⟨x, j, none⟩) h.m hh u⟩
theorem setGood (h : St w0 W1 W E a b er good done over) (v : Bool) : St w0 W1 (W.setCell ⟨E.bg, 0, none⟩ (.bool v)) E a b er v done over := by
  obtain ⟨n1, n2, n3, n4, n5, n6, n7, n8⟩ := h.ne
  obtain ⟨q1, q2⟩ := h.set_ 0 (.bool v) h.old.1 n1 h.hne.1
  exact ⟨q1, q2, blk_put h.good_ 0 _ rfl, blk_far (p := ⟨E.bg, 0, none⟩) h.list (blk_ne h.list h.good_ (by decide)) _, blk_far (p := ⟨E.bg, 0, none⟩) h.done_ (blk_ne h.done_ h.good_ (by decide)) _, blk_far (p := ⟨E.bg, 0, none⟩) h.ptr (blk_ne h.ptr h.good_ (by decide)) _, blk_far (p := ⟨E.bg, 0, none⟩) h.row (blk_ne h.row h.good_ (by decide)) _, blk_far (p := ⟨E.bg, 0, none⟩) h.over_ n8.symm _, h.ne, h.old, h.kp.setCell (p := ⟨E.bg, 0, none⟩) (.inl (.inr (.inl rfl))) _⟩
theorem setDone (h : St w0 W1 W E a b er good done over) (v : Int) : St w0 W1 (W.setCell ⟨E.bd, 0, none⟩ (.int .i64 v)) E a b er good v over := by
  obtain ⟨n1, n2, n3, n4, n5, n6, n7, n8⟩ := h.ne
  obtain ⟨q1, q2⟩ := h.set_ 0 (.int .i64 v) h.old.2.1 n3 h.hne.2.2.1
  exact ⟨q1, q2, blk_far (p := ⟨E.bd, 0, none⟩) h.good_ (blk_ne h.good_ h.done_ (by decide)) _, blk_far (p := ⟨E.bd, 0, none⟩) h.list (blk_ne h.list h.done_ (by decide)) _, blk_put h.done_ 0 _ rfl, blk_far (p := ⟨E.bd, 0, none⟩) h.ptr (blk_ne h.ptr h.done_ (by decide)) _, blk_far (p := ⟨E.bd, 0, none⟩) h.row (blk_ne h.row h.done_ (by decide)) _, blk_far (p := ⟨E.bd, 0, none⟩) h.over_ (blk_ne h.over_ h.done_ (by decide)) _, h.ne, h.old, h.kp.setCell (p := ⟨E.bd, 0, none⟩) (.inl (.inr (.inr (.inl rfl)))) _⟩
theorem setOver (h : St w0 W1 W E a b er good done over) (v : Bool) : St w0 W1 (W.setCell ⟨E.bo, 0, none⟩ (.bool v)) E a b er good done v := by
  obtain ⟨n1, n2, n3, n4, n5, n6, n7, n8⟩ := h.ne
  obtain ⟨q1, q2⟩ := h.set_ 0 (.bool v) h.old.2.2 n6 h.hne.2.2.2.2.2
  exact ⟨q1, q2, blk_far (p := ⟨E.bo, 0, none⟩) h.good_ n8 _, blk_far (p := ⟨E.bo, 0, none⟩) h.list (blk_ne h.list h.over_ (by decide)) _, blk_far (p := ⟨E.bo, 0, none⟩) h.done_ (blk_ne h.done_ h.over_ (by decide)) _, blk_far (p := ⟨E.bo, 0, none⟩) h.ptr (blk_ne h.ptr h.over_ (by decide)) _, blk_far (p := ⟨E.bo, 0, none⟩) h.row (blk_ne h.row h.over_ (by decide)) _, blk_put h.over_ 0 _ rfl, h.ne, h.old, h.kp.setCell (p := ⟨E.bo, 0, none⟩) (.inl (.inr (.inr (.inr (.inl rfl))))) _⟩
theorem alloc (h : St w0 W1 W E a b er good done over) (o : Obj) : St w0 W1 (W.alloc o) E a b er good done over := h.below (below_alloc (Below.refl _ _) o)
theorem drewN (h : St w0 W1 W E a b er good done over) (m : Nat) : St w0 W1 (W.drewN m) E a b er good done over := h.below (pw_below_drewN (Below.refl _ _) m)
/-- What stands in the variables. -/
theorem cells (h : St w0 W1 W E a b er good done over) : W.cell? ⟨E.bg, 0, none⟩ = some (.bool good) ∧ W.frozen? ⟨E.bg, 0, none⟩ = false ∧ W.cell? ⟨E.bl, 0, none⟩ = some (.slice E.A1 E.n1 E.c1) ∧ W.cell? ⟨E.bd, 0, none⟩ = some (.int .i64 done) ∧ W.frozen? ⟨E.bd, 0, none⟩ = false ∧
    W.cell? ⟨E.bm, 0, none⟩ = some (.pointer (some ⟨E.h, 0, none⟩)) ∧ W.cell? ⟨E.bb, 0, none⟩ = some (.slice E.A E.l.length E.c) ∧ W.cell? ⟨E.bo, 0, none⟩ = some (.bool over) ∧ W.frozen? ⟨E.bo, 0, none⟩ = false ∧ W.cell? ⟨E.h, 1, none⟩ = some (.int .i64 b) ∧ W.cell? ⟨E.h, 2, none⟩ = some (.int .i64 er) := by
  obtain ⟨A, c, hb⟩ := h.mb
  exact ⟨(blk_cell h.good_ 0).trans rfl, blk_frozen h.good_ 0, (blk_cell h.list 0).trans rfl, (blk_cell h.done_ 0).trans rfl, blk_frozen h.done_ 0, (blk_cell h.ptr 0).trans rfl, (blk_cell h.row 0).trans rfl, (blk_cell h.over_ 0).trans rfl, blk_frozen h.over_ 0, (blk_cell hb 1).trans rfl, (blk_cell hb 2).trans rfl⟩
/-! the reader's calls -/
theorem r_byte (h : St w0 W1 W E a b er good done over) (ha : a < E.l.length) : Calls Try.prog 17 #[.pointer (some ⟨E.g, 0, none⟩)] W fun e w' => e = .returned (.int .u8 (rd E.l (a : Int))) ∧ St w0 W1 w' E (a + 1) b er good done over ∧ Kp (fun k => k = E.g) W w' :=
  (h.r.byte_step ha).mono fun e w' ⟨he, hr, hk⟩ => ⟨he, h.rstep hr hk, hk⟩
theorem r_uint (h : St w0 W1 W E a b er good done over) (most x : Int) (k : Nat) (hg : gu (E.l.drop a) = (x, (k : Int), 0)) (hx : x ≤ most) : Calls Try.prog 25 #[.pointer (some ⟨E.g, 0, none⟩), .int .u64 most] W fun e w' => e = .returned (.int .u64 x) ∧ St w0 W1 w' E (a + k) b er good done over ∧ Kp (fun k => k = E.g) W w' :=
  (h.r.uint_step most x k hg hx).mono fun e w' ⟨he, hr, hk⟩ => ⟨he, h.rstep hr hk, hk⟩
theorem r_int (h : St w0 W1 W E a b er good done over) (x : Int) (k : Nat) (hg : gu (E.l.drop a) = (x, (k : Int), 0)) : Calls Try.prog 27 #[.pointer (some ⟨E.g, 0, none⟩)] W fun e w' => e = .returned (.int .i64 (zagS x)) ∧ St w0 W1 w' E (a + k) b er good done over ∧ Kp (fun k => k = E.g) W w' :=
  (h.r.int_step x k hg).mono fun e w' ⟨he, hr, hk⟩ => ⟨he, h.rstep hr hk, hk⟩
theorem r_must (h : St w0 W1 W E a b er good done over) (ok : Bool) (er' : Int) (hf : ok = true ∨ er' = 0) : Calls Try.prog 18 #[.pointer (some ⟨E.g, 0, none⟩), .bool ok, .int .i64 er'] W fun e w' => e = .returned (.tuple #[]) ∧ St w0 W1 w' E a b er good done over ∧ Kp (fun k => k = E.g) W w' :=
  (h.r.must_step ok er' hf).mono fun e w' ⟨he, hr, hk⟩ => ⟨he, h.rstep hr hk, hk⟩
theorem r_byte_end (h : St w0 W1 W E E.l.length b er good done over) : Calls Try.prog 17 #[.pointer (some ⟨E.g, 0, none⟩)] W fun e w' => e = .panicked [ends E.g 5] ∧ St w0 W1 w' E E.l.length b er good done over ∧ Kp (fun k => k = E.g) W w' :=
  h.r.byte_end.mono fun e w' ⟨he, hr, hk⟩ => ⟨he, h.rstep hr hk, hk⟩
theorem r_uint_end (h : St w0 W1 W E a b er good done over) (most x k e1 : Int) (hg : gu (E.l.drop a) = (x, k, e1)) (he : e1 ≠ 0 ∨ most < x) : Calls Try.prog 25 #[.pointer (some ⟨E.g, 0, none⟩), .int .u64 most] W fun e w' => e = .panicked [ends E.g (if e1 = 0 then 3 else e1)] ∧ St w0 W1 w' E a b er good done over ∧ Kp (fun k => k = E.g) W w' :=
  (h.r.uint_end most x k e1 hg he).mono fun e w' ⟨he, hr, hk⟩ => ⟨he, h.rstep hr hk, hk⟩
theorem r_int_end (h : St w0 W1 W E a b er good done over) (x k e1 : Int) (hg : gu (E.l.drop a) = (x, k, e1)) (he : e1 ≠ 0) : Calls Try.prog 27 #[.pointer (some ⟨E.g, 0, none⟩)] W fun e w' => e = .panicked [ends E.g e1] ∧ St w0 W1 w' E a b er good done over ∧ Kp (fun k => k = E.g) W w' :=
  (h.r.int_end x k e1 hg he).mono fun e w' ⟨he, hr, hk⟩ => ⟨he, h.rstep hr hk, hk⟩
theorem r_must_end (h : St w0 W1 W E a b er good done over) (e1 : Int) (he : e1 ≠ 0) : Calls Try.prog 18 #[.pointer (some ⟨E.g, 0, none⟩), .bool false, .int .i64 e1] W fun e w' => e = .panicked [ends E.g e1] ∧ St w0 W1 w' E a b er good done over ∧ Kp (fun k => k = E.g) W w' :=
  (h.r.must_end e1 he).mono fun e w' ⟨he, hr, hk⟩ => ⟨he, h.rstep hr hk, hk⟩
theorem r_bytes (h : St w0 W1 W E a b er good done over) (most : Int) (hm : most ≤ 9223372036854775807) (p : List Int) (k : Nat) (hg : gb (E.l.drop a) most = (p, (k : Int), 0)) (hk : a + k ≤ E.l.length) :
    Calls Try.prog 29 #[.pointer (some ⟨E.g, 0, none⟩), .int .i64 most] W fun e w' => ∃ A2 c2, e = .returned (.slice A2 p.length c2) ∧ (Kd.int .u8).C w' A2 p.length p ∧ St w0 W1 w' E (a + k) b er good done over ∧ Kp (fun k => k = E.g) W w' := by
  refine (bytes_calls h.r.at_ h.r.row h.r.cap h.r.le h.r.by_ h.r.len most hm p k hg (by have := h.r.len; omega)).mono ?_
  rintro e w' ⟨v, w1, rfl, hv, hb, rfl⟩
  have hk1 : Kp (fun k => k = E.g) W (w1.setCell ⟨E.g, 1, none⟩ (.int .i64 ((a + k : Nat) : Int))) := (Kp.of_below hb _).set_g _ _
  obtain ⟨A2, c2, rfl⟩ := Kd.R_slice hv
  refine ⟨A2, c2, rfl, ?_, h.rstep (h.r.step hk1 ((h.r.at_.below hb).set (a + k)) hk) hk1, hk1⟩
  have hx := (h.r.at_.below hb)
  have hv2 := Kd.R_types hv hx (by decide)
  exact (Kd.R_reads' (Kd.R_far (p := ⟨E.g, 1, none⟩) hv2 (fun k z => z.2) _)).2.2
theorem r_bytes_end (h : St w0 W1 W E a b er good done over) (most : Int) (hm : most ≤ 9223372036854775807) (p : List Int) (k e1 : Int) (hg : gb (E.l.drop a) most = (p, k, e1)) (he : e1 ≠ 0) :
    Calls Try.prog 29 #[.pointer (some ⟨E.g, 0, none⟩), .int .i64 most] W fun e w' => e = .panicked [ends E.g e1] ∧ St w0 W1 w' E a b er good done over ∧ Kp (fun k => k = E.g) W w' := by
  refine (bytes_ends h.r.at_ h.r.row h.r.cap h.r.le h.r.by_ h.r.len most hm p k e1 hg he).mono ?_
  rintro e w' ⟨rfl, hb⟩
  exact ⟨rfl, h.below hb, Kp.of_below hb _⟩
theorem r_at (h : St w0 W1 W E a b er good done over) : Calls Try.prog 22 #[.pointer (some ⟨E.g, 0, none⟩)] W fun e w' => e = .returned (.int .i64 (a : Int)) ∧ w' = W :=
  (at_calls h.r.at_).mono fun e w' ⟨he, hw⟩ => ⟨he, hw.symm⟩
theorem r_left (h : St w0 W1 W E a b er good done over) : Calls Try.prog 21 #[.pointer (some ⟨E.g, 0, none⟩)] W fun e w' => e = .returned (.int .i64 ((E.l.length : Int) - (a : Int))) ∧ ∃ m, w' = W.drewN m := by
  have := left_calls h.r.at_ h.r.le (by have := h.r.len; omega)
  rw [show ((E.l.length - a : Nat) : Int) = (E.l.length : Int) - (a : Int) from by have := h.r.le; omega] at this
  exact this
end St
end Go.Proofs.Ytamnnaadnjkdiaa.Rd
