-- WRITTEN by a program of this session's own (wip/gen/mkprint.py), over the kit's print: not printed by print.sh itself
import Derived.Test.YtamnnaadnjkdiaaPRfx0
namespace Go.Proofs.Ytamnnaadnjkdiaa.PRf
open Go.RowKit Go.Proofs.YtamnnaadnjkdiaaW.PrintWords Go.Proofs.YtamnnaadnjkdiaaW.PrintLast Go.Proofs.YtamnnaadnjkdiaaW.PrintMore
attribute [local go_sem] max2_int min2_int max_two min_two max_three min_three max_four min_four   -- for this text's walks alone
set_option linter.unusedVariables false
set_option linter.unusedSimpArgs false

/-- A state of type 38 at block g of W; what its slices lead to came in by w0. -/
def IsS38 (w0 W : World) (g : Nat) (f0 : List Int) (f1 : Int) (f2 : Int) : Prop := ∃ A0 c0, W.heap[g]? = some (.cells #[.slice A0 f0.length c0, .int .i64 f1, .int .i64 f2] 38 (0, 0)) ∧ (w0.heap.size ≤ g ∧ f0.length ≤ c0) ∧ Kd.C (Kd.int .u8) w0 A0 f0.length f0
theorem IsS38.grown {w0 W : World} {g : Nat} {f0 : List Int} {f1 : Int} {f2 : Int} {W1 : World} {row : Option Nat} (h : IsS38 w0 W g f0 f1 f2) (hw : W.grownBy W1 row) (hne : some g ≠ row) : IsS38 w0 W1 g f0 f1 f2 := by
  obtain ⟨A0, c0, hb, hg, hr0⟩ := h
  exact ⟨A0, c0, blk_grown hb hw hne, hg, hr0⟩
theorem IsS38.own_neN {w0 W : World} {g : Nat} {f0 : List Int} {f1 : Int} {f2 : Int} {α : Type} {d : Kd α} {e : Nat} {base : Nat} {ok : Nat → Prop} {v : Value} {xs : List α} (h : IsS38 w0 W g f0 f1 f2) (ho : Kd.N d e W base ok v xs) (ht : e ≠ 38) : some g ≠ v.ownBlock := by
  obtain ⟨A0, c0, hb, hg, hr0⟩ := h
  exact Kd.N_ne ho hb ht
theorem IsS38.fresh {w0 W : World} {g : Nat} {f0 : List Int} {f1 : Int} {f2 : Int} (h : IsS38 w0 W g f0 f1 f2) : ∀ k, W.heap.size ≤ k → k ≠ g := by
  obtain ⟨A0, c0, hb, hg, hr0⟩ := h
  exact Kd.freshB hb
theorem IsS38.kept {w0 W : World} {g : Nat} {f0 : List Int} {f1 : Int} {f2 : Int} {W1 : World} {S : Nat → Prop} (h : IsS38 w0 W g f0 f1 f2) (hk : Kept W W1 S) (hne : ¬ S g) : IsS38 w0 W1 g f0 f1 f2 := by
  obtain ⟨A0, c0, hb, hg, hr0⟩ := h
  exact ⟨A0, c0, blk_kept hb hk hne, hg, hr0⟩
theorem IsS38.below {w0 W : World} {g : Nat} {f0 : List Int} {f1 : Int} {f2 : Int} {W1 : World} (h : IsS38 w0 W g f0 f1 f2) (hw : Below W.heap.size W W1) : IsS38 w0 W1 g f0 f1 f2 := h.grown (grown_of_below hw none) (by simp)
theorem IsS38.alloc {w0 W : World} {g : Nat} {f0 : List Int} {f1 : Int} {f2 : Int} (h : IsS38 w0 W g f0 f1 f2) (o : Obj) : IsS38 w0 (W.alloc o) g f0 f1 f2 := h.below (below_alloc (Below.refl _ _) o)
theorem IsS38.drewN {w0 W : World} {g : Nat} {f0 : List Int} {f1 : Int} {f2 : Int} (h : IsS38 w0 W g f0 f1 f2) (m : Nat) : IsS38 w0 (W.drewN m) g f0 f1 f2 := h
theorem IsS38.drew {w0 W : World} {g : Nat} {f0 : List Int} {f1 : Int} {f2 : Int} (h : IsS38 w0 W g f0 f1 f2) : IsS38 w0 W.drew g f0 f1 f2 := h
theorem IsS38.at_ {w0 W : World} {g : Nat} {f0 : List Int} {f1 : Int} {f2 : Int} {w' : World} {m : Nat} (hq : W.drewN m = w') (h : IsS38 w0 W g f0 f1 f2) : IsS38 w0 w' g f0 f1 f2 := by subst hq; exact IsS38.drewN h m
theorem IsS38.apart {w0 W : World} {g : Nat} {f0 : List Int} {f1 : Int} {f2 : Int} {α : Type} {d : Kd α} {e : Nat} {base : Nat} {ok : Nat → Prop} {v : Value} {xs : List α} (h : IsS38 w0 W g f0 f1 f2) (ho : d.R e W base ok v xs) (ht : ∀ q, q ∈ e :: d.E → q ≠ 38) : d.R e W base (fun k => ok k ∧ k ≠ g) v xs := by
  obtain ⟨A0, c0, hb, hg, hr0⟩ := h
  exact Kd.R_types ho hb ht
theorem IsS38.own_ne {w0 W : World} {g : Nat} {f0 : List Int} {f1 : Int} {f2 : Int} {α : Type} {d : Kd α} {e : Nat} {base : Nat} {ok : Nat → Prop} {v : Value} {xs : List α} (h : IsS38 w0 W g f0 f1 f2) (ho : d.R e W base ok v xs) (ht : e ≠ 38) : some g ≠ v.ownBlock := by
  obtain ⟨A0, c0, hb, hg, hr0⟩ := h
  exact Kd.R_ne ho hb ht
theorem IsS38.apartQ {w0 W : World} {g : Nat} {f0 : List Int} {f1 : Int} {f2 : Int} {α : Type} {d : Kd α} {e : Nat} {base : Nat} {ok : Nat → Prop} {v : Value} {xs : List α} (h : IsS38 w0 W g f0 f1 f2) (ho : d.Q e W base ok v xs) (ht : ∀ q, q ∈ e :: d.E → q ≠ 38) : d.Q e W base (fun k => ok k ∧ k ≠ g) v xs := by
  obtain ⟨A0, c0, hb, hg, hr0⟩ := h
  exact Kd.Q_types ho hb ht
theorem IsS38.own_neQ {w0 W : World} {g : Nat} {f0 : List Int} {f1 : Int} {f2 : Int} {α : Type} {d : Kd α} {e : Nat} {base : Nat} {ok : Nat → Prop} {v : Value} {xs : List α} (h : IsS38 w0 W g f0 f1 f2) (ho : d.Q e W base ok v xs) (ht : e ≠ 38) : some g ≠ v.ownBlock := by
  obtain ⟨A0, c0, hb, hg, hr0⟩ := h
  exact Kd.Q_ne ho hb ht
theorem IsS38.apartS {w0 W : World} {g : Nat} {f0 : List Int} {f1 : Int} {f2 : Int} {α : Type} {d : Kd α} {e : Nat} {base : Nat} {ok : Nat → Prop} {v : Value} {xs : List α} (h : IsS38 w0 W g f0 f1 f2) (ho : d.S e W base ok v xs) (ht : ∀ q, q ∈ e :: d.E → q ≠ 38) : d.S e W base (fun k => ok k ∧ k ≠ g) v xs := by
  obtain ⟨A0, c0, hb, hg, hr0⟩ := h
  exact Kd.S_types ho hb ht
theorem IsS38.own_neS {w0 W : World} {g : Nat} {f0 : List Int} {f1 : Int} {f2 : Int} {α : Type} {d : Kd α} {e : Nat} {base : Nat} {ok : Nat → Prop} {v : Value} {xs : List α} (h : IsS38 w0 W g f0 f1 f2) (ho : d.S e W base ok v xs) (ht : e ≠ 38) : some g ≠ v.ownBlock := by
  obtain ⟨A0, c0, hb, hg, hr0⟩ := h
  exact Kd.S_ne ho hb ht
theorem IsS38.lt {w0 W : World} {g : Nat} {f0 : List Int} {f1 : Int} {f2 : Int} (h : IsS38 w0 W g f0 f1 f2) : g < W.heap.size := by
  obtain ⟨A0, c0, hb, hg, hr0⟩ := h
  exact blk_lt hb
theorem IsS38.ge {w0 W : World} {g : Nat} {f0 : List Int} {f1 : Int} {f2 : Int} (h : IsS38 w0 W g f0 f1 f2) : w0.heap.size ≤ g := by
  obtain ⟨A0, c0, hb, hg, hr0⟩ := h
  exact hg.1
theorem IsS38.ne_blk {w0 W : World} {g : Nat} {f0 : List Int} {f1 : Int} {f2 : Int} {a : Nat} {cs : Array Value} {t : TypeId} {fr : Nat × Nat} (h : IsS38 w0 W g f0 f1 f2) (hb2 : W.heap[a]? = some (.cells cs t fr)) (ht : t ≠ 38) : g ≠ a := by
  obtain ⟨A0, c0, hb, hg, hr0⟩ := h
  rintro rfl
  rw [hb] at hb2
  injection hb2 with hb2
  injection hb2 with _ ht2
  exact ht ht2.symm
theorem IsS38.far {w0 W : World} {g : Nat} {f0 : List Int} {f1 : Int} {f2 : Int} {p : Addr} (h : IsS38 w0 W g f0 f1 f2) (hne : g ≠ p.block) (u : Value) : IsS38 w0 (W.setCell p u) g f0 f1 f2 := by
  obtain ⟨A0, c0, hb, hg, hr0⟩ := h
  exact ⟨A0, c0, blk_far hb hne u, hg, hr0⟩
theorem cellS38_0 {W : World} {g : Nat} {A0 : Option Addr} {c0 : Nat} {f0 : List Int} {f1 : Int} {f2 : Int} (h : W.heap[g]? = some (.cells #[.slice A0 f0.length c0, .int .i64 f1, .int .i64 f2] 38 (0, 0))) : W.cell? ⟨g, 0, none⟩ = some (.slice A0 f0.length c0) := (blk_cell h 0).trans rfl
theorem cellS38_1 {W : World} {g : Nat} {A0 : Option Addr} {c0 : Nat} {f0 : List Int} {f1 : Int} {f2 : Int} (h : W.heap[g]? = some (.cells #[.slice A0 f0.length c0, .int .i64 f1, .int .i64 f2] 38 (0, 0))) : W.cell? ⟨g, 1, none⟩ = some (.int .i64 f1) := (blk_cell h 1).trans rfl
theorem IsS38.set_1 {w0 W : World} {g : Nat} {f0 : List Int} {f1 : Int} {f2 : Int} (h : IsS38 w0 W g f0 f1 f2) (x : Int) : IsS38 w0 (W.setCell ⟨g, 1, none⟩ (.int .i64 x)) g f0 x f2 := by
  obtain ⟨A0, c0, hb, hg, hr0⟩ := h
  exact ⟨A0, c0, by simpa using blk_set hb 1 (.int .i64 x), hg, hr0⟩
theorem cellS38_2 {W : World} {g : Nat} {A0 : Option Addr} {c0 : Nat} {f0 : List Int} {f1 : Int} {f2 : Int} (h : W.heap[g]? = some (.cells #[.slice A0 f0.length c0, .int .i64 f1, .int .i64 f2] 38 (0, 0))) : W.cell? ⟨g, 2, none⟩ = some (.int .i64 f2) := (blk_cell h 2).trans rfl
theorem IsS38.set_2 {w0 W : World} {g : Nat} {f0 : List Int} {f1 : Int} {f2 : Int} (h : IsS38 w0 W g f0 f1 f2) (x : Int) : IsS38 w0 (W.setCell ⟨g, 2, none⟩ (.int .i64 x)) g f0 f1 x := by
  obtain ⟨A0, c0, hb, hg, hr0⟩ := h
  exact ⟨A0, c0, by simpa using blk_set hb 2 (.int .i64 x), hg, hr0⟩
theorem IsS38.new (w0 W : World) (A0 : Option Addr) (c0 : Nat) (f0 : List Int) (f1 : Int) (f2 : Int) (hB : Below w0.heap.size w0 W) (hc0 : f0.length ≤ c0) (hr0 : Kd.C (Kd.int .u8) w0 A0 f0.length f0) : IsS38 w0 (W.alloc (.cells #[.slice A0 f0.length c0, .int .i64 f1, .int .i64 f2] 38)) W.heap.size f0 f1 f2 := ⟨A0, c0, by simpa using heap_alloc_new W _, ⟨hB.size, hc0⟩, hr0⟩
/-! ### deckleref03_Reader_rest: function 52 -/
/-- The document's reader: what is left (a cut; told of the block itself). -/
def deckleref03_Reader_rest.f (s0 : List Int) (s1 : Int) : Option (List Int) := if 0 ≤ s1 then some (s0.drop s1.toNat) else none
theorem deckleref03_Reader_rest.info8 : (Try.prog.info? 5).map (fun i => (i.zero, i.size, i.bytes)) = some (some (.int .u8 0), 1, 1) := by kernel_rfl
theorem deckleref03_Reader_rest.cut {W : World} {A : Option Addr} {l : List Int} {c a : Nat} (hC : (Kd.int .u8).C W A l.length l) (hc : l.length ≤ c) (ha : a ≤ l.length) :
    ∃ A1 : Option Addr, (∀ w : World, (Instr.slice 22 (.slice A l.length c) (some (.int .i64 (a : Int))) none none).run Try.prog w = .ok (.slice A1 (l.length - a) (c - a)) w) ∧
      (∀ w : World, (Kd.int .u8).C w A l.length l → (Kd.int .u8).C w A1 (l.drop a).length (l.drop a)) ∧ (l.drop a).length ≤ c - a := by
  obtain ⟨i0, hi0, _, hsz0, _⟩ := info_parts deckleref03_Reader_rest.info8
  obtain ⟨A1, h1, h2, h3⟩ := print_drop_of (P := Try.prog) (Value.int .u8) 0 22 5 .i64 Try.underlying22 hi0 hsz0 A c l (a : Int) (by omega) (by omega) hc
  simp only [Int.toNat_natCast] at h1 h2 h3
  refine ⟨A1, fun w => ?_, fun w hw => Kd.C_of_reads (h1 := fun _ => rfl) (h2 w (Kd.reads_of_C hw)), h3⟩
  rw [h1 w, List.length_drop]
theorem deckleref03_Reader_rest.calls {W : World} {g : Nat} {A : Option Addr} {n c : Nat} {a er : Int} {A1 : Option Addr} {n1 c1 : Nat}
    (hb : W.heap[g]? = some (.cells #[.slice A n c, .int .i64 a, .int .i64 er] 38 (0, 0)))
    (hcut : ∀ w : World, (Instr.slice 22 (.slice A n c) (some (.int .i64 a)) none none).run Try.prog w = .ok (.slice A1 n1 c1) w) :
    Calls Try.prog 52 #[.pointer (some ⟨g, 0, none⟩)] W fun e w' => e = .returned (.slice A1 n1 c1) ∧ ∃ m, w' = W.drewN m := by
  have c0 : W.cell? ⟨g, 0, none⟩ = some (.slice A n c) := (blk_cell hb 0).trans rfl
  have c1 : W.cell? ⟨g, 1, none⟩ = some (.int .i64 a) := (blk_cell hb 1).trans rfl
  clear hb
  go_enter Try.func52, Try.ntmps52
  go_wp2
  go_quiet (fail)
  go_wp2
  go_ret
  exact ⟨rfl, _, rfl⟩
/-- What is left, told of the state: a row that reads as the rest; the world has drawn. -/
theorem deckleref03_Reader_rest.state {w0 w : World} {g : Nat} {l : List Int} {a : Nat} {er : Int} (hI : IsS38 w0 w g l (a : Int) er) (hB : Below w0.heap.size w0 w) (ha : a ≤ l.length) :
    ∃ (A1 : Option Addr) (c1 : Nat), (l.drop a).length ≤ c1 ∧ (∀ W, Below w0.heap.size w0 W → (Kd.int .u8).C W A1 (l.drop a).length (l.drop a)) ∧
      (∀ m, Calls Try.prog 52 #[.pointer (some ⟨g, 0, none⟩)] (w.drewN m) fun e w' => e = .returned (.slice A1 (l.length - a) c1) ∧ ∃ m, w' = w.drewN m) := by
  obtain ⟨A, c, hb, hg, hr⟩ := hI
  obtain ⟨A1, h1, h2, h3⟩ := deckleref03_Reader_rest.cut hr hg.2 ha
  refine ⟨A1, c - a, h3, fun W hW => h2 W (Kd.C_below hr hW), fun m => ?_⟩
  refine (deckleref03_Reader_rest.calls (W := w.drewN m) hb h1).mono ?_
  rintro e w' ⟨rfl, m2, rfl⟩
  exact ⟨rfl, m + m2, World.drewN_drewN _ _ _⟩

/-! ### deckleref03_Reader_Byte: function 24 -/
def deckleref03_Reader_Byte.f (s0_0 : List Int) (s0_1 s0_2 : Int) : Option (Int × Int × Int) :=
  if 0 ≤ s0_1 ∧ s0_1 ≤ s0_0.length then (if s0_2 ≠ 0 then some (0, s0_1, s0_2) else if s0_1 = s0_0.length then some (0, s0_1, 5) else some (rd s0_0 s0_1, s0_1 + 1, 0)) else none
set_option maxHeartbeats 4000000 in
set_option maxRecDepth 100000 in
theorem deckleref03_Reader_Byte.calls (g : Nat) (s0_0 : List Int) (s0_1 : Int) (s0_2 : Int) (r1 r2 r3 : Int) (w0 w : World) (hI : IsS38 w0 w g s0_0 s0_1 s0_2) (hB : Below w0.heap.size w0 w) (h : deckleref03_Reader_Byte.f s0_0 s0_1 s0_2 = some (r1, r2, r3)) :
    Calls Try.prog 24 #[.pointer (some ⟨g, 0, none⟩)] w fun e w' => e = .returned (.int .u8 r1) ∧ IsS38 w0 w' g s0_0 r2 r3 ∧ Below w0.heap.size w0 w' ∧ KeepBut w w' g none := by
  unfold deckleref03_Reader_Byte.f at h
  by_cases hd : 0 ≤ s0_1 ∧ s0_1 ≤ s0_0.length
  case neg => rw [if_neg hd] at h; cases h
  rw [if_pos hd] at h
  obtain ⟨hd0, hd1⟩ := hd
  obtain ⟨a, rfl⟩ := Int.eq_ofNat_of_zero_le hd0
  have ha : a ≤ s0_0.length := by omega
  have HI := Aside0.mk hI
  have HB := Aside0.mk hB
  obtain ⟨A, c, hb, hg, hr⟩ := hI
  have c2 : w.cell? ⟨g, 2, none⟩ = some (.int .i64 s0_2) := (blk_cell hb 2).trans rfl
  have hm := hr.2.1
  by_cases h2 : s0_2 = 0
  case neg =>
    rw [if_pos h2] at h
    simp only [Option.some.injEq, Prod.mk.injEq] at h
    obtain ⟨rfl, rfl, rfl⟩ := h
    have t1 : (s0_2 != 0) = true := bne_iff_ne.mpr h2
    clear hB hb hg hr hd0 hd1 h2
    go_enter Try.func24, Try.ntmps24
    go_wp2
    go_ret
    exact ⟨rfl, HI.out, HB.out, KeepBut.refl _ _ _⟩
  rw [if_neg (by simpa using h2)] at h
  subst h2
  obtain ⟨A1, c1, hc1, hA1, hR⟩ := deckleref03_Reader_rest.state HI.out HB.out ha
  have HR := Aside0.mk (hR 0)
  clear hR hA1
  by_cases he : a = s0_0.length
  · rw [if_pos (by omega)] at h
    simp only [Option.some.injEq, Prod.mk.injEq] at h
    obtain ⟨rfl, rfl, rfl⟩ := h
    have z : s0_0.length - a = 0 := by omega
    rw [z] at HR
    have HE := Aside0.mk he
    clear hB hb hg hr hd0 hd1 z hc1 he
    go_enter Try.func24, Try.ntmps24
    go_wp2_with fail
    refine HR.out.mono ?_
    rintro e w' ⟨rfl, m, rfl⟩
    have HI1 := Aside0.mk (IsS38.drewN HI.out m)
    have HB1 := Aside0.mk (pw_below_drewN HB.out m)
    have HK1 := Aside0.mk (keep_drewN (KeepBut.refl w g none) m)
    obtain ⟨w1, hw1⟩ : ∃ w1, w.drewN m = w1 := ⟨_, rfl⟩
    rw [hw1] at HI1 HB1 HK1 ⊢
    clear hw1 c2
    obtain ⟨A', c', hb', -⟩ := HI1.out
    have c2 : w1.cell? ⟨g, 2, none⟩ = some (.int .i64 0) := (blk_cell hb' 2).trans rfl
    have f2 := blk_frozen hb' 2
    clear hb'
    go_wp2
    go_ret
    exact ⟨rfl, IsS38.set_2 HI1.out 5, below_set HB1.out (IsS38.ge HI1.out), KeepBut.set_ HK1.out 2 _⟩
  · rw [if_neg (by omega)] at h
    simp only [Option.some.injEq, Prod.mk.injEq] at h
    obtain ⟨rfl, rfl, rfl⟩ := h
    obtain ⟨n1, hn1⟩ : ∃ n1, s0_0.length - a = n1 := ⟨_, rfl⟩
    rw [hn1] at HR
    have t1 : ((n1 : Int) == 0) = false := beq_eq_false_iff_ne.mpr (by omega)
    have hal : a < s0_0.length := by omega
    have hmax : (a : Int) + 1 ≤ 9223372036854775807 := by omega
    have HE := Aside0.mk hal
    obtain ⟨ad, e, hx⟩ := Kd.at_int hr (a : Int) (by omega) (by omega)
    subst e
    rw [Int.toNat_natCast] at hx
    have hadb : (ad.add a).block ≠ g := by have := World.block_lt_of_cell? w0 _ hx; have := hg.1; omega
    have HX := Aside0.mk hx
    have HAD := Aside0.mk hadb
    have HBK := Aside0.mk hb
    obtain ⟨nn, hnn⟩ : ∃ nn, s0_0.length = nn := ⟨_, rfl⟩
    rw [hnn] at hal HBK
    have p0 : (0 ≤ (a : Int)) = True := eq_true (by omega)
    have p1 : ((a : Int) < (nn : Int)) = True := eq_true (by omega)
    clear hB hb hg hr hd0 hd1 hn1 hc1 he hx hadb hnn hm ha
    go_enter Try.func24, Try.ntmps24
    go_wp2_with fail
    refine HR.out.mono ?_
    rintro e w' ⟨rfl, m, rfl⟩
    have HI1 := Aside0.mk (IsS38.drewN HI.out m)
    have HB1 := Aside0.mk (pw_below_drewN HB.out m)
    have HK1 := Aside0.mk (keep_drewN (KeepBut.refl w g none) m)
    have hb1 : (w.drewN m).heap[g]? = _ := HBK.out
    obtain ⟨w1, hw1⟩ : ∃ w1, w.drewN m = w1 := ⟨_, rfl⟩
    rw [hw1] at HI1 HB1 HK1 hb1 ⊢
    clear hw1 c2 HBK
    have HI2 := Aside0.mk (IsS38.set_1 HI1.out ((a : Int) + 1))
    have HB2 := Aside0.mk (below_set (v := .int .i64 ((a : Int) + 1)) (j := 1) HB1.out (IsS38.ge HI1.out))
    have HK2 := Aside0.mk (KeepBut.set_ HK1.out 1 (.int .i64 ((a : Int) + 1)))
    have d0 : w1.cell? ⟨g, 0, none⟩ = some (.slice (some ad) nn c) := (blk_cell hb1 0).trans rfl
    have d1 : w1.cell? ⟨g, 1, none⟩ = some (.int .i64 (a : Int)) := (blk_cell hb1 1).trans rfl
    have d2 : w1.cell? ⟨g, 2, none⟩ = some (.int .i64 0) := (blk_cell hb1 2).trans rfl
    have f1 := blk_frozen hb1 1
    have hb2 := blk_set hb1 1 (.int .i64 ((a : Int) + 1))
    have e0 : (w1.setCell ⟨g, 1, none⟩ (.int .i64 ((a : Int) + 1))).cell? ⟨g, 0, none⟩ = some (.slice (some ad) nn c) := (blk_cell hb2 0).trans rfl
    have e1 : (w1.setCell ⟨g, 1, none⟩ (.int .i64 ((a : Int) + 1))).cell? ⟨g, 1, none⟩ = some (.int .i64 ((a : Int) + 1)) := (blk_cell hb2 1).trans rfl
    have ex : (w1.setCell ⟨g, 1, none⟩ (.int .i64 ((a : Int) + 1))).cell? (ad.add a) = some (.int .u8 (rd s0_0 (a : Int))) := keep_cell (KeepBut.set_ (KeepBut.refl w1 g none) 1 _) (pw_cell_below HB1.out HX.out) HAD.out
    clear hb1 hb2
    go_wp2_with fail
    go_quiet (fail)
    go_wp2
    go_ret
    exact ⟨rfl, IsS38.drewN HI2.out _, pw_below_drewN HB2.out _, keep_drewN HK2.out _⟩

/-! ### deckleref01_GetUint: function 54 -/
mutual
def deckleref01_GetUint.j1 : Nat → List Int → Int → Option (Int × Int × Int)
  | 0, _, _ => none
  | k + 1, x0, x5 => if x5 = 10 then (some (0, 0, 7)) else (if x5 = (x0.length : Int) then (some (0, 0, 5)) else (deckleref01_GetUint.l1 k x0 x5 0 x5))
def deckleref01_GetUint.l1 : Nat → List Int → Int → Int → Int → Option (Int × Int × Int)
  | 0, _, _, _, _ => none
  | k + 1, x0, x5, x6, x7 => if x7 ≥ 0 then (if x6 > 144115188075855871 then (some (0, 0, 7)) else (if 0 ≤ x7 then (if x7 < (x0.length : Int) then (deckleref01_GetUint.l1 k x0 x5 (IntKind.u64.wrap ((IntKind.u64.wrap (128 * x6)) + (IntKind.u64.wrap (Int.tmod (rd x0 x7) 128)))) (wrap64 (x7 - 1))) else (none)) else (none))) else (if x5 > 0 then (if 0 ≤ x5 then (if x5 < (x0.length : Int) then (if (rd x0 x5) = 0 then (some (0, 0, 6)) else (some (x6, wrap64 (x5 + 1), 0))) else (none)) else (none)) else (some (x6, wrap64 (x5 + 1), 0)))
def deckleref01_GetUint.l0 : Nat → List Int → Int → Option (Int × Int × Int)
  | 0, _, _ => none
  | k + 1, x0, x5 => if x5 < 10 then (if x5 < (x0.length : Int) then (if 0 ≤ x5 then (if (rd x0 x5) > 127 then (deckleref01_GetUint.l0 k x0 (wrap64 (x5 + 1))) else (deckleref01_GetUint.j1 k x0 x5)) else (none)) else (deckleref01_GetUint.j1 k x0 x5)) else (deckleref01_GetUint.j1 k x0 x5)
end
def deckleref01_GetUint.f (k : Nat) (l0 : List Int) : Option (Int × Int × Int) := deckleref01_GetUint.l0 k l0 0
theorem deckleref01_GetUint.mono_l : ∀ k, (∀ y0 y1, LeO (deckleref01_GetUint.j1 k y0 y1) (deckleref01_GetUint.j1 (k + 1) y0 y1)) ∧ (∀ y0 y1 y2 y3, LeO (deckleref01_GetUint.l1 k y0 y1 y2 y3) (deckleref01_GetUint.l1 (k + 1) y0 y1 y2 y3)) ∧ (∀ y0 y1, LeO (deckleref01_GetUint.l0 k y0 y1) (deckleref01_GetUint.l0 (k + 1) y0 y1))
  | 0 => ⟨fun _ _ r h => by simp [deckleref01_GetUint.j1] at h, fun _ _ _ _ r h => by simp [deckleref01_GetUint.l1] at h, fun _ _ r h => by simp [deckleref01_GetUint.l0] at h⟩
  | k + 1 => by
    obtain ⟨ih0, ih1, ih2⟩ := deckleref01_GetUint.mono_l k
    refine ⟨?_, ?_, ?_⟩
    · intro y0 y1
      unfold deckleref01_GetUint.j1
      repeat' first
      | (with_reducible exact ih0 _ _)
      | (with_reducible exact ih1 _ _ _ _)
      | (with_reducible exact ih2 _ _)
      | (with_reducible exact LeO.refl _)
      | (with_reducible exact LeO.none _)
      | (with_reducible refine LeO.ite ?_ ?_)
      | (with_reducible refine LeO.bind ?_ (fun _ => ?_))
      | exact ih0 _ _
      | exact ih1 _ _ _ _
      | exact ih2 _ _
      | exact LeO.none _
      | refine LeO.ite ?_ ?_
      | refine LeO.bind ?_ (fun _ => ?_)
    · intro y0 y1 y2 y3
      unfold deckleref01_GetUint.l1
      repeat' first
      | (with_reducible exact ih0 _ _)
      | (with_reducible exact ih1 _ _ _ _)
      | (with_reducible exact ih2 _ _)
      | (with_reducible exact LeO.refl _)
      | (with_reducible exact LeO.none _)
      | (with_reducible refine LeO.ite ?_ ?_)
      | (with_reducible refine LeO.bind ?_ (fun _ => ?_))
      | exact ih0 _ _
      | exact ih1 _ _ _ _
      | exact ih2 _ _
      | exact LeO.none _
      | refine LeO.ite ?_ ?_
      | refine LeO.bind ?_ (fun _ => ?_)
    · intro y0 y1
      unfold deckleref01_GetUint.l0
      repeat' first
      | (with_reducible exact ih0 _ _)
      | (with_reducible exact ih1 _ _ _ _)
      | (with_reducible exact ih2 _ _)
      | (with_reducible exact LeO.refl _)
      | (with_reducible exact LeO.none _)
      | (with_reducible refine LeO.ite ?_ ?_)
      | (with_reducible refine LeO.bind ?_ (fun _ => ?_))
      | exact ih0 _ _
      | exact ih1 _ _ _ _
      | exact ih2 _ _
      | exact LeO.none _
      | refine LeO.ite ?_ ?_
      | refine LeO.bind ?_ (fun _ => ?_)
theorem deckleref01_GetUint.mono : ∀ a0 k, LeO (deckleref01_GetUint.f k a0) (deckleref01_GetUint.f (k + 1) a0) := by
  intro a0 k
  obtain ⟨ih0, ih1, ih2⟩ := deckleref01_GetUint.mono_l k
  unfold deckleref01_GetUint.f
  repeat' first
      | (with_reducible exact ih0 _ _)
      | (with_reducible exact ih1 _ _ _ _)
      | (with_reducible exact ih2 _ _)
      | (with_reducible exact LeO.refl _)
      | (with_reducible exact LeO.none _)
      | (with_reducible refine LeO.ite ?_ ?_)
      | (with_reducible refine LeO.bind ?_ (fun _ => ?_))
      | exact ih0 _ _
      | exact ih1 _ _ _ _
      | exact ih2 _ _
      | exact LeO.none _
      | refine LeO.ite ?_ ?_
      | refine LeO.bind ?_ (fun _ => ?_)
set_option maxHeartbeats 8000000 in
set_option maxRecDepth 100000 in
theorem deckleref01_GetUint.calls (k : Nat) (A0 : Option Addr) (c0 : Nat) (l0 : List Int) (r1 : Int) (r2 : Int) (r3 : Int) (w : World) (hr0 : Kd.C (Kd.int .u8) w A0 l0.length l0) (hc0 : l0.length ≤ c0) (h : deckleref01_GetUint.f k l0 = some (r1, r2, r3)) :
    Calls Try.prog 54 #[.slice A0 l0.length c0] w fun e w' => e = .returned (.tuple #[.int .u64 r1, .int .i64 r2, .int .i64 r3]) ∧ Drawn0 w w' := by
  have HR0 := Aside0.mk hr0
  have HC0 := Aside0.mk hc0
  clear hr0 hc0
  have H : (deckleref01_GetUint.l0 k l0 0) = some (r1, r2, r3) := h
  clear h
  have HC2 := Aside0.mk H
  clear H
  go_enter Try.func54, Try.ntmps54
  go_upto_block 0 with (fail)
  go_cut [5] (fun v5 wc => ∃ (kq : Nat) (x5_1 : Int), v5 = .int .i64 x5_1 ∧ Aside0 (deckleref01_GetUint.j1 kq l0 x5_1 = some (r1, r2, r3)) ∧ Aside0 (kq ≤ k) ∧ Drawn0 w wc)
  case first =>
    have H := HC2.out
    clear HC2
    have H' := Aside0.mk H
    clear H
    go_wp2
    go_loopg [5] k (fun kq v5 w' => ∃ (x5_1 : Int), v5 = .int .i64 x5_1 ∧ Aside0 (deckleref01_GetUint.l0 kq l0 x5_1 = some (r1, r2, r3)) ∧ Aside0 (kq ≤ k) ∧ Drawn0 w w')
    case atStart => exact ⟨(0), (by first | rfl | (simp; done) | (simp [*]; done)), H', ⟨Nat.le_refl _⟩, by repeat (first | exact Drawn0.refl _ | apply Drawn0.step)⟩
    case round =>
      clear H'
      try clear p2
      obtain ⟨x5_1, rfl, HA, HK1, ⟨m1, rfl⟩⟩ := hrel
      cases gk with
      | zero => exact absurd HA.out (by simp [deckleref01_GetUint.l0])
      | succ k1 =>
        have H := HA.out
        clear HA
        simp only [deckleref01_GetUint.l0] at H
        by_cases c3 : x5_1 < 10
        · rw [if_pos c3] at H
          have c3b0 : decide (x5_1 < 10) = true := decide_eq_true c3
          clear c3
          (first | rw [c3b0] | (simp only [i64_w, i32_w]; rw [c3b0]) | skip)
          by_cases c4 : x5_1 < (l0.length : Int)
          · rw [if_pos c4] at H
            have c4b0 : decide (x5_1 < (l0.length : Int)) = true := decide_eq_true c4
            clear c4
            by_cases c5 : 0 ≤ x5_1
            · rw [if_pos c5] at H
              have c5b0 : decide (0 ≤ x5_1) = true := decide_eq_true c5
              clear c5
              by_cases c6 : (rd l0 x5_1) > 127
              · rw [if_pos c6] at H
                have c6b0 : decide (127 < (rd l0 x5_1)) = true := decide_eq_true c6
                clear c6
                have H' := Aside0.mk H
                clear H
                have p101 : 0 ≤ (x5_1 : Int) := of_decide_eq_true (by first | (with_reducible assumption) | assumption)
                have q101 : x5_1 < (l0.length : Int) := of_decide_eq_true (by first | (with_reducible assumption) | assumption)
                obtain ⟨ad101, e101, hx101_0⟩ := Kd.at_int HR0.out x5_1 p101 q101
                cases e101
                replace p101 := eq_true p101
                replace q101 := eq_true q101
                go_wp2
                go_roundg k1
                case measure => have := HK1.out; omega
                case rel => exact ⟨(wrap64 (x5_1 + 1)), (by first | rfl | (simp; done) | (simp [*]; done)), H', ⟨by have := HK1.out; omega⟩, by repeat (first | exact Drawn0.refl _ | apply Drawn0.step)⟩
              · rw [if_neg c6] at H
                have c6b0 : decide (127 < (rd l0 x5_1)) = false := decide_eq_false c6
                clear c6
                have H' := Aside0.mk H
                clear H
                have p101 : 0 ≤ (x5_1 : Int) := of_decide_eq_true (by first | (with_reducible assumption) | assumption)
                have q101 : x5_1 < (l0.length : Int) := of_decide_eq_true (by first | (with_reducible assumption) | assumption)
                obtain ⟨ad101, e101, hx101_0⟩ := Kd.at_int HR0.out x5_1 p101 q101
                cases e101
                replace p101 := eq_true p101
                replace q101 := eq_true q101
                go_wp2
                go_meet
                case rel => exact ⟨_, (x5_1), (by first | rfl | (simp; done) | (simp [*]; done)), H', ⟨by have := HK1.out; first | omega | exact Nat.le_refl _⟩, by repeat (first | exact Drawn0.refl _ | apply Drawn0.step)⟩
            · rw [if_neg c5] at H
              exact absurd H (by simp)
          · rw [if_neg c4] at H
            have c4b0 : decide (x5_1 < (l0.length : Int)) = false := decide_eq_false c4
            clear c4
            have H' := Aside0.mk H
            clear H
            go_wp2
            go_meet
            case rel => exact ⟨_, (x5_1), (by first | rfl | (simp; done) | (simp [*]; done)), H', ⟨by have := HK1.out; first | omega | exact Nat.le_refl _⟩, by repeat (first | exact Drawn0.refl _ | apply Drawn0.step)⟩
        · rw [if_neg c3] at H
          have c3b0 : decide (x5_1 < 10) = false := decide_eq_false c3
          clear c3
          (first | rw [c3b0] | (simp only [i64_w, i32_w]; rw [c3b0]) | skip)
          have H' := Aside0.mk H
          clear H
          go_wp2
          go_meet
          case rel => exact ⟨_, (x5_1), (by first | rfl | (simp; done) | (simp [*]; done)), H', ⟨by have := HK1.out; first | omega | exact Nat.le_refl _⟩, by repeat (first | exact Drawn0.refl _ | apply Drawn0.step)⟩
  case rest =>
    clear HC2
    try clear p1
    try clear q1
    try clear hx1
    try clear p2
    try clear c3
    try clear c3b0
    try clear c4
    try clear c4b0
    try clear c5
    try clear c5b0
    try clear c6
    try clear c6b0
    try clear p6
    try clear hx101_0
    try clear p101
    try clear p2
    try clear q101
    obtain ⟨kq, x5_1, rfl, HA, HJ1, ⟨mc1, rfl⟩⟩ := hcut
    cases kq with
    | zero => exact absurd HA.out (by simp [deckleref01_GetUint.j1])
    | succ kj1 =>
      have H := HA.out
      clear HA
      simp only [deckleref01_GetUint.j1] at H
      by_cases c7 : x5_1 = 10
      · rw [if_pos c7] at H
        have c7b0 : (x5_1 == 10) = true := beq_iff_eq.mpr c7
        have c7b1 : (x5_1 != 10) = false := bne_eq_false_iff_eq.mpr c7
        clear c7
        simp only [Option.some.injEq, Prod.mk.injEq] at H
        obtain ⟨rfl, rfl, rfl⟩ := H
        go_wp2
        go_ret3
        exact ⟨by first | rfl | (simp; done) | (simp [*]; done), by repeat (first | exact Drawn0.refl _ | apply Drawn0.step)⟩
      · rw [if_neg c7] at H
        have c7b0 : (x5_1 == 10) = false := beq_eq_false_iff_ne.mpr c7
        have c7b1 : (x5_1 != 10) = true := bne_iff_ne.mpr c7
        by_cases c8 : x5_1 = (l0.length : Int)
        · rw [if_pos c8] at H
          have c8b0 : (x5_1 == (l0.length : Int)) = true := beq_iff_eq.mpr c8
          have c8b1 : (x5_1 != (l0.length : Int)) = false := bne_eq_false_iff_eq.mpr c8
          clear c8
          simp only [Option.some.injEq, Prod.mk.injEq] at H
          obtain ⟨rfl, rfl, rfl⟩ := H
          go_wp2
          go_ret3
          exact ⟨by first | rfl | (simp; done) | (simp [*]; done), by repeat (first | exact Drawn0.refl _ | apply Drawn0.step)⟩
        · rw [if_neg c8] at H
          have c8b0 : (x5_1 == (l0.length : Int)) = false := beq_eq_false_iff_ne.mpr c8
          have c8b1 : (x5_1 != (l0.length : Int)) = true := bne_iff_ne.mpr c8
          have H' := Aside0.mk H
          clear H
          go_wp2
          go_loopg [6, 7] kj1 (fun kq v6 v7 w' => ∃ (x6_2 : Int) (x7_2 : Int), v6 = .int .u64 x6_2 ∧ v7 = .int .i64 x7_2 ∧ Aside0 (deckleref01_GetUint.l1 kq l0 x5_1 x6_2 x7_2 = some (r1, r2, r3)) ∧ Aside0 (kq ≤ kj1) ∧ Drawn0 w w')
          case atStart => exact ⟨(0), (x5_1), (by first | rfl | (simp; done) | (simp [*]; done)), (by first | rfl | (simp; done) | (simp [*]; done)), H', ⟨Nat.le_refl _⟩, by repeat (first | exact Drawn0.refl _ | apply Drawn0.step)⟩
          case round =>
            clear H'
            try clear c1
            try clear p1
            try clear q1
            try clear hx1
            try clear p2
            try clear c3
            try clear c3b0
            try clear c4
            try clear c4b0
            try clear c5
            try clear c5b0
            try clear c6
            try clear c6b0
            try clear p6
            try clear c7
            try clear c7b0
            try clear c7b1
            try clear c8
            try clear c8b0
            try clear c8b1
            try clear hx101_0
            try clear p1
            try clear p101
            try clear p2
            try clear p6
            try clear q1
            try clear q101
            obtain ⟨x6_2, x7_2, rfl, rfl, HA, HK2, ⟨m2, rfl⟩⟩ := hrel
            cases gk with
            | zero => exact absurd HA.out (by simp [deckleref01_GetUint.l1])
            | succ k2 =>
              have H := HA.out
              clear HA
              simp only [deckleref01_GetUint.l1] at H
              by_cases c9 : x7_2 ≥ 0
              · rw [if_pos c9] at H
                have c9b0 : decide (0 ≤ x7_2) = true := decide_eq_true c9
                clear c9
                by_cases c10 : x6_2 > 144115188075855871
                · rw [if_pos c10] at H
                  have c10b0 : decide (144115188075855871 < x6_2) = true := decide_eq_true c10
                  clear c10
                  simp only [Option.some.injEq, Prod.mk.injEq] at H
                  obtain ⟨rfl, rfl, rfl⟩ := H
                  go_wp2
                  go_ret3
                  exact ⟨by first | rfl | (simp; done) | (simp [*]; done), by repeat (first | exact Drawn0.refl _ | apply Drawn0.step)⟩
                · rw [if_neg c10] at H
                  have c10b0 : decide (144115188075855871 < x6_2) = false := decide_eq_false c10
                  clear c10
                  by_cases c11 : 0 ≤ x7_2
                  · rw [if_pos c11] at H
                    have c11b0 : decide (0 ≤ x7_2) = true := decide_eq_true c11
                    clear c11
                    by_cases c12 : x7_2 < (l0.length : Int)
                    · rw [if_pos c12] at H
                      have c12b0 : decide (x7_2 < (l0.length : Int)) = true := decide_eq_true c12
                      clear c12
                      have H' := Aside0.mk H
                      clear H
                      have p102 : 0 ≤ (x7_2 : Int) := of_decide_eq_true (by first | (with_reducible assumption) | assumption)
                      have q102 : x7_2 < (l0.length : Int) := of_decide_eq_true (by first | (with_reducible assumption) | assumption)
                      obtain ⟨ad102, e102, hx102_0⟩ := Kd.at_int HR0.out x7_2 p102 q102
                      cases e102
                      replace p102 := eq_true p102
                      replace q102 := eq_true q102
                      go_wp2
                      go_roundg k2
                      case measure => have := HJ1.out; have := HK2.out; omega
                      case rel => exact ⟨(IntKind.u64.wrap ((IntKind.u64.wrap (128 * x6_2)) + (IntKind.u64.wrap (Int.tmod (rd l0 x7_2) 128)))), (wrap64 (x7_2 - 1)), (by first | rfl | (simp; done) | (simp [*]; done)), (by first | rfl | (simp; done) | (simp [*]; done)), H', ⟨by have := HJ1.out; have := HK2.out; omega⟩, by repeat (first | exact Drawn0.refl _ | apply Drawn0.step)⟩
                    · rw [if_neg c12] at H
                      exact absurd H (by simp)
                  · rw [if_neg c11] at H
                    exact absurd H (by simp)
              · rw [if_neg c9] at H
                have c9b0 : decide (0 ≤ x7_2) = false := decide_eq_false c9
                clear c9
                by_cases c13 : x5_1 > 0
                · rw [if_pos c13] at H
                  have c13b0 : decide (0 < x5_1) = true := decide_eq_true c13
                  clear c13
                  by_cases c14 : 0 ≤ x5_1
                  · rw [if_pos c14] at H
                    have c14b0 : decide (0 ≤ x5_1) = true := decide_eq_true c14
                    clear c14
                    by_cases c15 : x5_1 < (l0.length : Int)
                    · rw [if_pos c15] at H
                      have c15b0 : decide (x5_1 < (l0.length : Int)) = true := decide_eq_true c15
                      clear c15
                      by_cases c16 : (rd l0 x5_1) = 0
                      · rw [if_pos c16] at H
                        have c16b0 : ((rd l0 x5_1) == 0) = true := beq_iff_eq.mpr c16
                        have c16b1 : ((rd l0 x5_1) != 0) = false := bne_eq_false_iff_eq.mpr c16
                        clear c16
                        simp only [Option.some.injEq, Prod.mk.injEq] at H
                        obtain ⟨rfl, rfl, rfl⟩ := H
                        have p103 : 0 ≤ (x5_1 : Int) := of_decide_eq_true (by first | (with_reducible assumption) | assumption)
                        have q103 : x5_1 < (l0.length : Int) := of_decide_eq_true (by first | (with_reducible assumption) | assumption)
                        obtain ⟨ad103, e103, hx103_0⟩ := Kd.at_int HR0.out x5_1 p103 q103
                        cases e103
                        replace p103 := eq_true p103
                        replace q103 := eq_true q103
                        go_wp2
                        go_ret3
                        exact ⟨by first | rfl | (simp; done) | (simp [*]; done), by repeat (first | exact Drawn0.refl _ | apply Drawn0.step)⟩
                      · rw [if_neg c16] at H
                        have c16b0 : ((rd l0 x5_1) == 0) = false := beq_eq_false_iff_ne.mpr c16
                        have c16b1 : ((rd l0 x5_1) != 0) = true := bne_iff_ne.mpr c16
                        simp only [Option.some.injEq, Prod.mk.injEq] at H
                        obtain ⟨rfl, rfl, rfl⟩ := H
                        have p103 : 0 ≤ (x5_1 : Int) := of_decide_eq_true (by first | (with_reducible assumption) | assumption)
                        have q103 : x5_1 < (l0.length : Int) := of_decide_eq_true (by first | (with_reducible assumption) | assumption)
                        obtain ⟨ad103, e103, hx103_0⟩ := Kd.at_int HR0.out x5_1 p103 q103
                        cases e103
                        replace p103 := eq_true p103
                        replace q103 := eq_true q103
                        go_wp2
                        go_ret3
                        exact ⟨by first | rfl | (simp; done) | (simp [*]; done), by repeat (first | exact Drawn0.refl _ | apply Drawn0.step)⟩
                    · rw [if_neg c15] at H
                      exact absurd H (by simp)
                  · rw [if_neg c14] at H
                    exact absurd H (by simp)
                · rw [if_neg c13] at H
                  have c13b0 : decide (0 < x5_1) = false := decide_eq_false c13
                  clear c13
                  simp only [Option.some.injEq, Prod.mk.injEq] at H
                  obtain ⟨rfl, rfl, rfl⟩ := H
                  go_wp2
                  go_ret3
                  exact ⟨by first | rfl | (simp; done) | (simp [*]; done), by repeat (first | exact Drawn0.refl _ | apply Drawn0.step)⟩

/-! ### deckleref03_Reader_Uint: function 26 -/
def deckleref03_Reader_Uint.g (s0_1 a1 : Int) (q : Int × Int × Int) : Option (Int × Int × Int) :=
  if q.2.2 ≠ 0 then some (0, s0_1, q.2.2) else if a1 < q.1 then some (0, s0_1, 3) else if 0 ≤ q.2.1 ∧ s0_1 + q.2.1 ≤ 9223372036854775807 then some (q.1, s0_1 + q.2.1, 0) else none
def deckleref03_Reader_Uint.f (k : Nat) (s0_0 : List Int) (s0_1 s0_2 : Int) (a1 : Int) : Option (Int × Int × Int) :=
  if 0 ≤ s0_1 ∧ s0_1 ≤ s0_0.length then (if s0_2 ≠ 0 then some (0, s0_1, s0_2) else (deckleref01_GetUint.f k (s0_0.drop s0_1.toNat)).bind fun q => deckleref03_Reader_Uint.g s0_1 a1 q) else none
theorem deckleref03_Reader_Uint.mono : ∀ s0_0 s0_1 s0_2 a1 k, LeO (deckleref03_Reader_Uint.f k s0_0 s0_1 s0_2 a1) (deckleref03_Reader_Uint.f (k + 1) s0_0 s0_1 s0_2 a1) := by
  intro s0_0 s0_1 s0_2 a1 k
  unfold deckleref03_Reader_Uint.f
  exact LeO.ite (LeO.ite (LeO.refl _) (LeO.bind (deckleref01_GetUint.mono _ k) (fun _ => LeO.refl _))) (LeO.refl _)
set_option maxHeartbeats 4000000 in
set_option maxRecDepth 100000 in
theorem deckleref03_Reader_Uint.calls (k : Nat) (g : Nat) (s0_0 : List Int) (s0_1 : Int) (s0_2 : Int) (a1 : Int) (r1 r2 r3 : Int) (w0 w : World) (hI : IsS38 w0 w g s0_0 s0_1 s0_2) (hB : Below w0.heap.size w0 w) (h : deckleref03_Reader_Uint.f k s0_0 s0_1 s0_2 a1 = some (r1, r2, r3)) :
    Calls Try.prog 26 #[.pointer (some ⟨g, 0, none⟩), .int .u64 a1] w fun e w' => e = .returned (.int .u64 r1) ∧ IsS38 w0 w' g s0_0 r2 r3 ∧ Below w0.heap.size w0 w' ∧ KeepBut w w' g none := by
  unfold deckleref03_Reader_Uint.f at h
  by_cases hd : 0 ≤ s0_1 ∧ s0_1 ≤ s0_0.length
  case neg => rw [if_neg hd] at h; cases h
  rw [if_pos hd] at h
  obtain ⟨hd0, hd1⟩ := hd
  obtain ⟨a, rfl⟩ := Int.eq_ofNat_of_zero_le hd0
  have ha : a ≤ s0_0.length := by omega
  have HI := Aside0.mk hI
  have HB := Aside0.mk hB
  obtain ⟨A, c, hb, hg, hr⟩ := hI
  have c2 : w.cell? ⟨g, 2, none⟩ = some (.int .i64 s0_2) := (blk_cell hb 2).trans rfl
  have hm := hr.2.1
  by_cases h2 : s0_2 = 0
  case neg =>
    rw [if_pos h2] at h
    simp only [Option.some.injEq, Prod.mk.injEq] at h
    obtain ⟨rfl, rfl, rfl⟩ := h
    have t1 : (s0_2 != 0) = true := bne_iff_ne.mpr h2
    clear hB hb hg hr hd0 hd1 h2
    go_enter Try.func26, Try.ntmps26
    go_wp2
    go_ret
    exact ⟨rfl, HI.out, HB.out, KeepBut.refl _ _ _⟩
  rw [if_neg (by simpa using h2)] at h
  subst h2
  obtain ⟨A1, c1, hc1, hA1, hR⟩ := deckleref03_Reader_rest.state HI.out HB.out ha
  have HR := Aside0.mk (hR 0)
  rw [Int.toNat_natCast] at h
  obtain ⟨⟨x, n, er⟩, hq, hgo⟩ := Option.bind_eq_some_iff.mp h
  have HG := Aside0.mk (fun W (hW : Below w0.heap.size w0 W) => deckleref01_GetUint.calls k A1 c1 (s0_0.drop a) x n er W (hA1 W hW) hc1 hq)
  have HBK := Aside0.mk hb
  have HGE := Aside0.mk hg.1
  rw [List.length_drop] at HG
  obtain ⟨n1, hn1⟩ : ∃ n1, s0_0.length - a = n1 := ⟨_, rfl⟩
  rw [hn1] at HG HR
  clear hB hb hg hr hd0 hd1 hc1 hA1 hR hq h hn1 hm ha
  unfold deckleref03_Reader_Uint.g at hgo
  dsimp only at hgo
  have key : ∀ m, (w.drewN m).heap[g]? = w.heap[g]? := fun m => rfl
  by_cases h0 : er = 0
  · subst h0
    rw [if_neg (by simp)] at hgo
    by_cases hlt : a1 < x
    · rw [if_pos hlt] at hgo
      simp only [Option.some.injEq, Prod.mk.injEq] at hgo
      obtain ⟨rfl, rfl, rfl⟩ := hgo
      have t1 : decide (a1 < x) = true := decide_eq_true hlt
      clear hlt key
      go_enter Try.func26, Try.ntmps26
      go_wp2_with fail
      refine HR.out.mono ?_
      rintro e w' ⟨rfl, m, rfl⟩
      go_wp2_with fail
      refine (HG.out _ (pw_below_drewN HB.out m)).mono ?_
      rintro e w' ⟨rfl, ⟨m2, rfl⟩⟩
      have hb1 : ((w.drewN m).drewN m2).heap[g]? = _ := HBK.out
      have HI1 := Aside0.mk (IsS38.drewN (IsS38.drewN HI.out m) m2)
      have HB1 := Aside0.mk (pw_below_drewN (pw_below_drewN HB.out m) m2)
      have HK1 := Aside0.mk (keep_drewN (keep_drewN (KeepBut.refl w g none) m) m2)
      obtain ⟨w1, hw1⟩ : ∃ w1, (w.drewN m).drewN m2 = w1 := ⟨_, rfl⟩
      rw [hw1] at HI1 HB1 HK1 hb1 ⊢
      have d2 : w1.cell? ⟨g, 2, none⟩ = some (.int .i64 0) := (blk_cell hb1 2).trans rfl
      have f2 := blk_frozen hb1 2
      clear hw1 c2 hb1 HBK HR HG
      go_wp2
      go_ret
      exact ⟨rfl, IsS38.set_2 HI1.out 3, below_set HB1.out (IsS38.ge HI1.out), KeepBut.set_ HK1.out 2 _⟩
    · rw [if_neg hlt] at hgo
      by_cases hn : 0 ≤ n ∧ (a : Int) + n ≤ 9223372036854775807
      case neg => rw [if_neg hn] at hgo; cases hgo
      rw [if_pos hn] at hgo
      simp only [Option.some.injEq, Prod.mk.injEq] at hgo
      obtain ⟨rfl, rfl, rfl⟩ := hgo
      have t1 : decide (a1 < x) = false := decide_eq_false hlt
      have hs : (a : Int) + n ≤ 9223372036854775807 := hn.2
      have hs0 : 0 ≤ n := hn.1
      clear hlt key hn
      go_enter Try.func26, Try.ntmps26
      go_wp2_with fail
      refine HR.out.mono ?_
      rintro e w' ⟨rfl, m, rfl⟩
      go_wp2_with fail
      refine (HG.out _ (pw_below_drewN HB.out m)).mono ?_
      rintro e w' ⟨rfl, ⟨m2, rfl⟩⟩
      have hb1 : ((w.drewN m).drewN m2).heap[g]? = _ := HBK.out
      have HI1 := Aside0.mk (IsS38.drewN (IsS38.drewN HI.out m) m2)
      have HB1 := Aside0.mk (pw_below_drewN (pw_below_drewN HB.out m) m2)
      have HK1 := Aside0.mk (keep_drewN (keep_drewN (KeepBut.refl w g none) m) m2)
      obtain ⟨w1, hw1⟩ : ∃ w1, (w.drewN m).drewN m2 = w1 := ⟨_, rfl⟩
      rw [hw1] at HI1 HB1 HK1 hb1 ⊢
      have d1 : w1.cell? ⟨g, 1, none⟩ = some (.int .i64 (a : Int)) := (blk_cell hb1 1).trans rfl
      have f1 := blk_frozen hb1 1
      clear hw1 c2 hb1 HBK HR HG
      go_wp2
      go_ret
      exact ⟨rfl, IsS38.set_1 HI1.out _, below_set HB1.out (IsS38.ge HI1.out), KeepBut.set_ HK1.out 1 _⟩
  · rw [if_pos h0] at hgo
    simp only [Option.some.injEq, Prod.mk.injEq] at hgo
    obtain ⟨rfl, rfl, rfl⟩ := hgo
    have t1 : (er == 0) = false := beq_eq_false_iff_ne.mpr h0
    have t2 : (er != 0) = true := bne_iff_ne.mpr h0
    clear h0 key
    go_enter Try.func26, Try.ntmps26
    go_wp2_with fail
    refine HR.out.mono ?_
    rintro e w' ⟨rfl, m, rfl⟩
    go_wp2_with fail
    refine (HG.out _ (pw_below_drewN HB.out m)).mono ?_
    rintro e w' ⟨rfl, ⟨m2, rfl⟩⟩
    have hb1 : ((w.drewN m).drewN m2).heap[g]? = _ := HBK.out
    have HI1 := Aside0.mk (IsS38.drewN (IsS38.drewN HI.out m) m2)
    have HB1 := Aside0.mk (pw_below_drewN (pw_below_drewN HB.out m) m2)
    have HK1 := Aside0.mk (keep_drewN (keep_drewN (KeepBut.refl w g none) m) m2)
    obtain ⟨w1, hw1⟩ : ∃ w1, (w.drewN m).drewN m2 = w1 := ⟨_, rfl⟩
    rw [hw1] at HI1 HB1 HK1 hb1 ⊢
    have d2 : w1.cell? ⟨g, 2, none⟩ = some (.int .i64 0) := (blk_cell hb1 2).trans rfl
    have f2 := blk_frozen hb1 2
    clear hw1 c2 hb1 HBK HR HG
    go_wp2
    go_ret
    exact ⟨rfl, IsS38.set_2 HI1.out _, below_set HB1.out (IsS38.ge HI1.out), KeepBut.set_ HK1.out 2 _⟩

/-! ### deckleref01_Zag: function 56 -/
def deckleref01_Zag.f (a0 : Int) : Option (Int) := if (Int.tmod a0 2) = 0 then (some (wrap64 (IntKind.u64.wrap (Int.tdiv a0 2)))) else (some (wrap64 ((wrap64 (-(wrap64 (IntKind.u64.wrap (Int.tdiv a0 2))))) - 1)))
set_option maxHeartbeats 8000000 in
set_option maxRecDepth 100000 in
theorem deckleref01_Zag.calls (a0 : Int) (r : Int) (w : World) (h : deckleref01_Zag.f a0 = some r) :
    Calls Try.prog 56 #[.int .u64 a0] w fun e w' => e = .returned (.int .i64 r) ∧ Drawn0 w w' := by
  have H : (if (Int.tmod a0 2) = 0 then (some (wrap64 (IntKind.u64.wrap (Int.tdiv a0 2)))) else (some (wrap64 ((wrap64 (-(wrap64 (IntKind.u64.wrap (Int.tdiv a0 2))))) - 1)))) = some r := h
  clear h
  by_cases c2 : (Int.tmod a0 2) = 0
  · rw [if_pos c2] at H
    have c2b0 : ((Int.tmod a0 2) == 0) = true := beq_iff_eq.mpr c2
    have c2b1 : ((Int.tmod a0 2) != 0) = false := bne_eq_false_iff_eq.mpr c2
    clear c2
    obtain rfl := Option.some.inj H
    go_enter Try.func56, Try.ntmps56
    go_wp2
    go_ret
    exact ⟨by first | rfl | (simp; done) | (simp [*]; done), by repeat (first | exact Drawn0.refl _ | apply Drawn0.step)⟩
  · rw [if_neg c2] at H
    have c2b0 : ((Int.tmod a0 2) == 0) = false := beq_eq_false_iff_ne.mpr c2
    have c2b1 : ((Int.tmod a0 2) != 0) = true := bne_iff_ne.mpr c2
    obtain rfl := Option.some.inj H
    go_enter Try.func56, Try.ntmps56
    go_wp2
    go_ret
    exact ⟨by first | rfl | (simp; done) | (simp [*]; done), by repeat (first | exact Drawn0.refl _ | apply Drawn0.step)⟩

/-! ### deckleref03_Reader_Int: function 28 -/
def deckleref03_Reader_Int.f (k : Nat) (s0_0 : List Int) (s0_1 : Int) (s0_2 : Int) : Option (Int × Int × Int) := (deckleref03_Reader_Uint.f k s0_0 s0_1 s0_2 18446744073709551615).bind fun bt104 => ((deckleref01_Zag.f bt104.1).bind fun t107 => (some (t107, bt104.2.1, bt104.2.2)))
theorem deckleref03_Reader_Int.mono : ∀ a0 a1 a2 k, LeO (deckleref03_Reader_Int.f k a0 a1 a2) (deckleref03_Reader_Int.f (k + 1) a0 a1 a2) := by
  intro a0 a1 a2 k
  unfold deckleref03_Reader_Int.f
  repeat' first
      | (with_reducible exact deckleref03_Reader_Uint.mono _ _ _ _ _)
      | (with_reducible exact LeO.refl _)
      | (with_reducible exact LeO.none _)
      | (with_reducible refine LeO.ite ?_ ?_)
      | (with_reducible refine LeO.bind ?_ (fun _ => ?_))
      | exact deckleref03_Reader_Uint.mono _ _ _ _ _
      | exact LeO.none _
      | refine LeO.ite ?_ ?_
      | refine LeO.bind ?_ (fun _ => ?_)
set_option maxHeartbeats 8000000 in
set_option maxRecDepth 100000 in
theorem deckleref03_Reader_Int.calls (k : Nat) (g : Nat) (s0_0 : List Int) (s0_1 : Int) (s0_2 : Int) (r1 : Int) (r2 : Int) (r3 : Int) (w0 w : World) (hI : IsS38 w0 w g s0_0 s0_1 s0_2) (hB : Below w0.heap.size w0 w) (h : deckleref03_Reader_Int.f k s0_0 s0_1 s0_2 = some (r1, r2, r3)) :
    Calls Try.prog 28 #[.pointer (some ⟨g, 0, none⟩)] w fun e w' => e = .returned (.int .i64 r1) ∧ IsS38 w0 w' g s0_0 r2 r3 ∧ Below w0.heap.size w0 w' ∧ KeepBut w w' g none := by
  have HI0 := Aside0.mk hI
  have HK := Aside0.mk (KeepBut.refl w g none)
  have HL := Aside0.mk hB.size
  clear hI
  have HW0 := Aside0.mk hB.size
  have HB := Aside0.mk hB
  clear hB
  have H : ((deckleref03_Reader_Uint.f k s0_0 s0_1 s0_2 18446744073709551615).bind fun bt104 => ((deckleref01_Zag.f bt104.1).bind fun t107 => (some (t107, bt104.2.1, bt104.2.2)))) = some (r1, r2, r3) := h
  clear h
  replace H := Option.bind_eq_some_iff.mp H
  obtain ⟨⟨t104, t105, t106⟩, A20, H⟩ := H
  replace H : ((deckleref01_Zag.f t104).bind fun t107 => (some (t107, t105, t106))) = some (r1, r2, r3) := H
  have A2 := Aside0.mk A20
  clear A20
  replace H := Option.bind_eq_some_iff.mp H
  obtain ⟨t107, A30, H⟩ := H
  replace H : (some (t107, t105, t106)) = some (r1, r2, r3) := H
  have A3 := Aside0.mk A30
  clear A30
  simp only [Option.some.injEq, Prod.mk.injEq] at H
  obtain ⟨rfl, rfl, rfl⟩ := H
  go_enter Try.func28, Try.ntmps28
  go_wp2_with (first | ((with_reducible refine gate_callee (f := 26) rfl ?_); refine goesL_ (some 5) rfl rfl Try.func26 (by kernel_rfl) rfl #[.pointer (some ⟨g, 0, none⟩), .int .u64 18446744073709551615] rfl (by (try simp only [List.map_toArray, List.map_cons, List.map_nil]); first | done | rfl | (simp only [List.length_drop, List.length_take]; rfl)) ?_; (with_reducible refine (deckleref03_Reader_Uint.calls k g s0_0 s0_1 s0_2 18446744073709551615 t104 t105 t106 w0 _ ?side1 ?side2 A2.out).mono ?_); (case side1 => repeat (first | (with_reducible first | exact HI0.out | apply IsS38.alloc | apply IsS38.drewN | apply IsS38.drew | apply IsS38.set_1 | apply IsS38.set_2) | exact HI0.out)); (case side2 => repeat (first | (with_reducible first | exact HB.out | apply below_alloc | apply pw_below_drewN | apply below_drew1 | refine below_set ?_ (IsS38.ge HI0.out)) | exact HB.out)); rintro e w4 ⟨rfl, hi, hb, hk⟩; refine ⟨_, rfl, ?_⟩; have n0_ := Aside0.mk (KeepBut.trans (by repeat (first | (with_reducible first | exact HK.out | apply KeepBut.set_ | apply keep_drewN | apply keep_drew | apply keep_alloc) | exact HK.out)) hk (.inl rfl)); have n1_ := Aside0.mk (hb); have n2_ := Aside0.mk (hi); clear HK; clear HB; clear HI0; have HK := n0_; have HB := n1_; have HI0 := n2_; clear n0_ n1_ n2_; (try clear hb); (try clear hb2); (try clear hk); (try clear hi)) | ((with_reducible refine gate_callee (f := 56) rfl ?_); refine goesL_ (some 7) rfl rfl Try.func56 (by kernel_rfl) rfl #[.int .u64 t104] rfl (by (try simp only [List.map_toArray, List.map_cons, List.map_nil]); first | done | rfl | (simp only [List.length_drop, List.length_take]; rfl)) ?_; (with_reducible refine (deckleref01_Zag.calls t104 t107 _ A3.out).mono ?_); rintro e w' ⟨rfl, ⟨nd, rfl⟩⟩; refine ⟨_, rfl, ?_⟩))
  go_ret
  exact ⟨by first | rfl | (simp [errW_none, errW_some] <;> rfl) | (simp [*, errW_none, errW_some] <;> rfl), by repeat (first | (with_reducible first | exact HI0.out | apply IsS38.alloc | apply IsS38.drewN | apply IsS38.drew | apply IsS38.set_1 | apply IsS38.set_2) | exact HI0.out), by repeat (first | (with_reducible first | exact HB.out | apply below_alloc | apply pw_below_drewN | apply below_drew1 | refine below_set ?_ (IsS38.ge HI0.out)) | exact HB.out), by repeat (first | (with_reducible first | exact HK.out | apply KeepBut.set_ | apply keep_drewN | apply keep_drew | apply keep_alloc) | exact HK.out)⟩

end Go.Proofs.Ytamnnaadnjkdiaa.PRf
