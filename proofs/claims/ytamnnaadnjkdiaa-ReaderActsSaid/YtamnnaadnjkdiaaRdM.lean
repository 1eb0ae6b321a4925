import Derived.Test.YtamnnaadnjkdiaaRdL
/-! ReaderActs: the call. -/
namespace Go.Proofs.Ytamnnaadnjkdiaa.Rd
open Go.RowKit Go.Proofs.YtamnnaadnjkdiaaW.PrintWords Go.Proofs.YtamnnaadnjkdiaaW.PrintLast Go.Proofs.YtamnnaadnjkdiaaW.PrintMore Go.Proofs.Ytamnnaadnjkdiaa.Wire
set_option linter.unusedVariables false
set_option linter.unusedSimpArgs false
set_option maxRecDepth 100000

/-- What stands behind Run. -/
structure Behind (w W : World) (b : Nat) (A1 : Option Addr) (n1 c1 : Nat) (l : List Int) (a : Nat) (done : Int) (over : Bool) : Prop where
  m : IsM w W b l (a : Int) 0
  below : Below w.heap.size w W
  good_ : W.cell? ⟨b + 1 + 1, 0, none⟩ = some (.bool true)
  list : W.cell? ⟨w.heap.size + 1, 0, none⟩ = some (.slice A1 n1 c1)
  done_ : W.cell? ⟨b + 1 + 1 + 1, 0, none⟩ = some (.int .i64 done)
  ptr : W.cell? ⟨b + 1, 0, none⟩ = some (.pointer (some ⟨b, 0, none⟩))
  over_ : W.cell? ⟨b + 1 + 1 + 1 + 1, 0, none⟩ = some (.bool over)
  le : a ≤ l.length
set_option maxHeartbeats 4000000 in
theorem acts_run {w w1 : World} {A0 A1 : Option Addr} {c0 n1 c1 : Nat} {l : List Int} {acts : Nat → Act} (hr0 : Kd.C (Kd.int .u8) w A0 l.length l) (hc0 : l.length ≤ c0) (hb : Bytes l) (hl : l.length ≤ 2000) (hn : n1 ≤ 200) (hw : ∀ i, i < n1 → Fit (acts i)) (hC : Cells w A1 n1 acts)
    (b1 : Below (w.heap.size + 2) ((w.alloc (.cells #[.slice A0 l.length c0] 22)).alloc (.cells #[.slice A1 n1 c1] 35)) w1) :
    Calls Try.prog 15 #[.slice A0 l.length c0, .func (.func 23) #[] #[.pointer (some ⟨w1.heap.size + 1 + 1, 0, none⟩), .pointer (some ⟨w.heap.size + 1, 0, none⟩), .pointer (some ⟨w1.heap.size + 1 + 1 + 1, 0, none⟩), .pointer (some ⟨w1.heap.size + 1, 0, none⟩), .pointer (some ⟨w.heap.size, 0, none⟩), .pointer (some ⟨w1.heap.size + 1 + 1 + 1 + 1, 0, none⟩)]]
      (((((w1.alloc (.cells #[.slice A0 l.length c0, .int .i64 0, .int .i64 0] 38)).alloc (.cells #[.pointer (some ⟨w1.heap.size, 0, none⟩)] 36)).alloc (.cells #[.bool true] 4)).alloc (.cells #[.int .i64 0] 3)).alloc (.cells #[.bool false] 4))
      fun e w' => ∃ (a : Nat) (er done : Int) (over : Bool), e = .returned (.tuple #[.int .i64 (a : Int), .int .i64 er]) ∧ Behind w w' w1.heap.size A1 n1 c1 l a done over ∧
        ((over = true ∧ done = n1 ∧ er = (if a < l.length then 7 else 0)) ∨ (over = false ∧ ∃ j, j < n1 ∧ done = (j : Int) + 1 ∧ endOf l a (acts j) = er ∧ er ≠ 0)) := by
  have hcf : ∀ args w, (callFunc 23 args).run Try.prog w = .ok (.enter 23 args) w := fun _ _ => by kernel_rfl
  have hsz : w.heap.size + 2 ≤ w1.heap.size := by have := b1.size; simpa using this
  have hB1 : Below w.heap.size w w1 := (below_alloc (below_alloc (Below.refl w.heap.size w) _) _).trans (b1.mono (by omega))
  have hbb : w1.heap[w.heap.size]? = some (.cells #[.slice A0 l.length c0] 22 (0, 0)) := by
    rw [b1.block _ (by omega)]
    exact blk_alloc (heap_alloc_new w _) _
  have hbl : w1.heap[w.heap.size + 1]? = some (.cells #[.slice A1 n1 c1] 35 (0, 0)) := by
    rw [b1.block _ (by omega)]
    have := heap_alloc_new (w.alloc (.cells #[.slice A0 l.length c0] 22)) (.cells #[.slice A1 n1 c1] 35)
    simpa using this
  obtain ⟨X1, hX1⟩ : ∃ X, w1.alloc (.cells #[.slice A0 l.length c0, .int .i64 0, .int .i64 0] 38) = X := ⟨_, rfl⟩
  have g1 : X1.heap[w1.heap.size]? = some (.cells #[.slice A0 l.length c0, .int .i64 0, .int .i64 0] 38 (0, 0)) := by rw [← hX1]; exact heap_alloc_new w1 _
  have s1 : X1.heap.size = w1.heap.size + 1 := by rw [← hX1]; simp
  have B1 : Below w1.heap.size w1 X1 := by rw [← hX1]; exact below_alloc (Below.refl _ _) _
  rw [hX1]
  obtain ⟨X2, hX2⟩ : ∃ X, X1.alloc (.cells #[.pointer (some ⟨w1.heap.size, 0, none⟩)] 36) = X := ⟨_, rfl⟩
  have g2 : X2.heap[w1.heap.size + 1]? = some (.cells #[.pointer (some ⟨w1.heap.size, 0, none⟩)] 36 (0, 0)) := by rw [← hX2, ← s1]; exact heap_alloc_new X1 _
  have s2 : X2.heap.size = w1.heap.size + 1 + 1 := by rw [← hX2, ← s1]; simp
  have B2 : Below X1.heap.size X1 X2 := by rw [← hX2]; exact below_alloc (Below.refl _ _) _
  rw [hX2]
  obtain ⟨X3, hX3⟩ : ∃ X, X2.alloc (.cells #[.bool true] 4) = X := ⟨_, rfl⟩
  have g3 : X3.heap[w1.heap.size + 1 + 1]? = some (.cells #[.bool true] 4 (0, 0)) := by rw [← hX3, ← s2]; exact heap_alloc_new X2 _
  have s3 : X3.heap.size = w1.heap.size + 1 + 1 + 1 := by rw [← hX3, ← s2]; simp
  have B3 : Below X2.heap.size X2 X3 := by rw [← hX3]; exact below_alloc (Below.refl _ _) _
  rw [hX3]
  obtain ⟨X4, hX4⟩ : ∃ X, X3.alloc (.cells #[.int .i64 0] 3) = X := ⟨_, rfl⟩
  have g4 : X4.heap[w1.heap.size + 1 + 1 + 1]? = some (.cells #[.int .i64 0] 3 (0, 0)) := by rw [← hX4, ← s3]; exact heap_alloc_new X3 _
  have s4 : X4.heap.size = w1.heap.size + 1 + 1 + 1 + 1 := by rw [← hX4, ← s3]; simp
  have B4 : Below X3.heap.size X3 X4 := by rw [← hX4]; exact below_alloc (Below.refl _ _) _
  rw [hX4]
  obtain ⟨X5, hX5⟩ : ∃ X, X4.alloc (.cells #[.bool false] 4) = X := ⟨_, rfl⟩
  have g5 : X5.heap[w1.heap.size + 1 + 1 + 1 + 1]? = some (.cells #[.bool false] 4 (0, 0)) := by rw [← hX5, ← s4]; exact heap_alloc_new X4 _
  have s5 : X5.heap.size = w1.heap.size + 5 := by rw [← hX5]; simp [s4]
  have B5 : Below X4.heap.size X4 X5 := by rw [← hX5]; exact below_alloc (Below.refl _ _) _
  rw [hX5]
  clear hX1 hX2 hX3 hX4 hX5
  have hBX : Below w.heap.size w X5 := below_step (below_step (below_step (below_step (below_step hB1 B1) B2) B3) B4) B5
  refine (run_rd (w0 := w) (l := l) (fun k => k = w1.heap.size + 1 + 1 ∨ k = w1.heap.size + 1 + 1 + 1 ∨ k = w1.heap.size + 1 + 1 + 1 + 1 ∨ k = w1.heap.size)
    (fun g h1 a w' => ∃ W1, St w W1 w' ⟨g, w1.heap.size, w1.heap.size + 1 + 1, w.heap.size + 1, w1.heap.size + 1 + 1 + 1, w1.heap.size + 1, w.heap.size, w1.heap.size + 1 + 1 + 1 + 1, A0, c0, l, A1, n1, c1⟩ a a 0 true n1 true)
    (fun g h1 a er w' => ∃ W1 j, j < n1 ∧ St w W1 w' ⟨g, w1.heap.size, w1.heap.size + 1 + 1, w.heap.size + 1, w1.heap.size + 1 + 1 + 1, w1.heap.size + 1, w.heap.size, w1.heap.size + 1 + 1 + 1 + 1, A0, c0, l, A1, n1, c1⟩ a a 0 true ((j : Int) + 1) false ∧ endOf l a (acts j) = er ∧ er ≠ 0)
    hBX hr0 hc0 hb (by omega) (by rintro k (h | h | h | h) <;> omega) hcf ?_).mono ?_
  · intro g W1 hr hbw h1 h2
    rw [s5] at h1
    have q1 := blk_below (blk_below (blk_below (blk_below g1 B2) B3) B4) B5
    have q2 := blk_below (blk_below (blk_below g2 B3) B4) B5
    have q3 := blk_below (blk_below g3 B4) B5
    have q4 := blk_below g4 B5
    have hbX : Below w1.heap.size w1 X5 := below_step (below_step (below_step (below_step B1 B2) B3) B4) B5
    have st : St w W1 W1 ⟨g, w1.heap.size, w1.heap.size + 1 + 1, w.heap.size + 1, w1.heap.size + 1 + 1 + 1, w1.heap.size + 1, w.heap.size, w1.heap.size + 1 + 1 + 1 + 1, A0, c0, l, A1, n1, c1⟩ 0 0 0 true 0 false :=
      ⟨hr, ⟨A0, c0, blk_below q1 hbw, ⟨(show w.heap.size ≤ w1.heap.size by omega), hc0⟩, hr0⟩, blk_below q3 hbw, blk_below (blk_below hbl hbX) hbw, blk_below q4 hbw, blk_below q2 hbw, blk_below (blk_below hbb hbX) hbw, blk_below g5 hbw,
        by refine ⟨?_, ?_, ?_, ?_, ?_, ?_, ?_, ?_⟩ <;> (dsimp only; omega), by refine ⟨?_, ?_, ?_⟩ <;> (dsimp only; omega), Kp.refl _ _⟩
    refine (acts_closure st (by exact hl) (by exact hn) (by exact hw) (by exact hC)).mono ?_
    rintro e w' ⟨k1, k2⟩
    refine ⟨k1, ?_⟩
    rcases k2 with ⟨e1, a, h3, h4, h5⟩ | ⟨a, er, e1, h3, h4, j, hj, h5, h6⟩
    · exact .inl ⟨e1, a, h3, h4, _, h5⟩
    · exact .inr ⟨a, er, e1, h3, h4, _, j, hj, h5, h6⟩
  · rintro e w2 ⟨g, hh1, a, er, w3, rfl, hg1, hg2, hg3, hkA, hkB, hat, ha, hcase⟩
    rw [s5] at hg1
    have hbe : Below w.heap.size w w2 := hkA.to_below hBX (by rintro k (h | h | h | h) <;> omega)
    have key : ∀ {done : Int} {over : Bool} {W1 : World}, St w W1 w3 ⟨g, w1.heap.size, w1.heap.size + 1 + 1, w.heap.size + 1, w1.heap.size + 1 + 1 + 1, w1.heap.size + 1, w.heap.size, w1.heap.size + 1 + 1 + 1 + 1, A0, c0, l, A1, n1, c1⟩ a a 0 true done over → Behind w w2 w1.heap.size A1 n1 c1 l a done over := by
      intro done over W1 h
      have nn : ∀ k, k < X5.heap.size → ¬ (X5.heap.size ≤ k ∧ k < hh1) := fun k hk z => by omega
      refine ⟨PRf.IsS38.kept h.m hkB.kept (nn _ (by omega)), hbe, ?_, ?_, ?_, ?_, ?_, ha⟩
      · exact (blk_cell (hkB.blk h.good_ (nn (w1.heap.size + 1 + 1) (by omega))) 0).trans rfl
      · exact (blk_cell (hkB.blk h.list (nn (w.heap.size + 1) (by omega))) 0).trans rfl
      · exact (blk_cell (hkB.blk h.done_ (nn (w1.heap.size + 1 + 1 + 1) (by omega))) 0).trans rfl
      · exact (blk_cell (hkB.blk h.ptr (nn (w1.heap.size + 1) (by omega))) 0).trans rfl
      · exact (blk_cell (hkB.blk h.over_ (nn (w1.heap.size + 1 + 1 + 1 + 1) (by omega))) 0).trans rfl
    rcases hcase with ⟨⟨W1, h5⟩, her⟩ | ⟨W1, j, hj, h5, h6, h7⟩
    · exact ⟨a, er, _, _, rfl, key h5, .inl ⟨rfl, rfl, her⟩⟩
    · exact ⟨a, er, _, _, rfl, key h5, .inr ⟨rfl, j, hj, rfl, h6, h7⟩⟩
theorem done_calls {w0 w : World} {h : Nat} {l : List Int} {a : Nat} {er : Int} (hm : IsM w0 w h l (a : Int) er) (hb : Below w0.heap.size w0 w) {x : Int} (hx : x = if er = 0 ∧ a < l.length then 7 else er) :
    Calls Try.prog 32 #[.pointer (some ⟨h, 0, none⟩)] w fun e w' => e = .returned (.tuple #[.int .i64 (a : Int), .int .i64 x]) ∧ Below w0.heap.size w0 w' ∧ KeepBut w w' h none := by
  refine (PRf.deckleref03_Reader_Done.calls h l a er a x a er w0 w hm hb ?_).mono fun e w' ⟨h1, h2, h3, h4⟩ => ⟨h1, h3, h4⟩
  unfold PRf.deckleref03_Reader_Done.f
  subst hx
  by_cases h1 : er = 0
  · by_cases h2 : (a : Int) < (l.length : Int)
    · rw [if_pos h1, if_pos h2, if_pos ⟨h1, by omega⟩]
    · rw [if_pos h1, if_neg h2, if_neg (by omega)]
  · rw [if_neg h1, if_neg (by simp [h1])]
theorem done_past {w0 w : World} {h : Nat} {l : List Int} {a : Nat} {er : Int} (hm : IsM w0 w h l (a : Int) er) (hb : Below w0.heap.size w0 w) (he : er ≠ 0) :
    Calls Try.prog 32 #[.pointer (some ⟨h, 0, none⟩)] w fun e w' => e = .returned (.tuple #[.int .i64 (a : Int), .int .i64 er]) ∧ Below w0.heap.size w0 w' ∧ KeepBut w w' h none :=
  done_calls hm hb (by rw [if_neg (fun z => he z.1)])
set_option maxHeartbeats 4000000 in
theorem readerActs_big (A0 A1 : Option Addr) (c0 c1 n1 : Nat) (l : List Int) (w : World) (hbig : 2000 < l.length ∨ 200 < n1) (hl : l.length ≤ 140737488351232) (hn : n1 ≤ 9223372036854775807) :
    Calls Try.prog 5 #[.slice A0 l.length c0, .slice A1 n1 c1] w fun e w' => e = .returned (.bool true) ∧ Below w.heap.size w w' := by
  obtain ⟨n0, hn0⟩ : ∃ n0, l.length = n0 := ⟨_, rfl⟩
  rw [hn0] at hbig hl ⊢
  clear hn0
  by_cases hb : 2000 < n0
  · have t1 : decide ((2000 : Int) < (n0 : Int)) = true := decide_eq_true (by omega)
    have t2 : decide (2000 < n0) = true := decide_eq_true hb
    clear hbig hb
    go_enter Try.func5, Try.ntmps5
    go_wp2_with fail
    refine (alive_calls _).mono ?_
    rintro e w1 ⟨rfl, b1⟩
    have hbb := blk_below (blk_alloc (heap_alloc_new w (.cells #[.slice A0 n0 c0] 22)) _) b1
    have cb : w1.cell? ⟨w.heap.size, 0, none⟩ = some (.slice A0 n0 c0) := (blk_cell hbb 0).trans rfl
    have HB1 := Aside0.mk (below_step (below_alloc (below_alloc (Below.refl w.heap.size w) _) _) b1)
    clear hbb b1
    go_wp2_with fail
    refine (alive_calls _).mono ?_
    rintro e w2 ⟨rfl, b2⟩
    go_wp2
    go_ret
    exact ⟨rfl, below_step HB1.out b2⟩
  · have t1 : decide ((2000 : Int) < (n0 : Int)) = false := decide_eq_false (by omega)
    have t2 : decide (2000 < n0) = false := decide_eq_false hb
    have t3 : decide ((200 : Int) < (n1 : Int)) = true := decide_eq_true (by omega)
    have t4 : decide (200 < n1) = true := decide_eq_true (by omega)
    clear hbig hb
    go_enter Try.func5, Try.ntmps5
    go_wp2_with fail
    refine (alive_calls _).mono ?_
    rintro e w1 ⟨rfl, b1⟩
    have hbb := blk_below (blk_alloc (heap_alloc_new w (.cells #[.slice A0 n0 c0] 22)) _) b1
    have cb : w1.cell? ⟨w.heap.size, 0, none⟩ = some (.slice A0 n0 c0) := (blk_cell hbb 0).trans rfl
    have hbl : ((w.alloc (.cells #[.slice A0 n0 c0] 22)).alloc (.cells #[.slice A1 n1 c1] 35)).heap[w.heap.size + 1]? = some (.cells #[.slice A1 n1 c1] 35 (0, 0)) := by
      have := heap_alloc_new (w.alloc (.cells #[.slice A0 n0 c0] 22)) (.cells #[.slice A1 n1 c1] 35)
      simpa using this
    have hbl1 := blk_below hbl b1
    have cl : w1.cell? ⟨w.heap.size + 1, 0, none⟩ = some (.slice A1 n1 c1) := (blk_cell hbl1 0).trans rfl
    have HB1 := Aside0.mk (below_step (below_alloc (below_alloc (Below.refl w.heap.size w) _) _) b1)
    clear hbb b1 hbl hbl1
    go_wp2_with fail
    refine (alive_calls _).mono ?_
    rintro e w2 ⟨rfl, b2⟩
    go_wp2
    go_ret
    exact ⟨rfl, below_step HB1.out b2⟩
set_option maxHeartbeats 8000000 in
theorem readerActs_calls (A0 A1 : Option Addr) (c0 c1 n1 : Nat) (l : List Int) (acts : Nat → Act) (w : World) (hr0 : Kd.C (Kd.int .u8) w A0 l.length l) (hc0 : l.length ≤ c0) (hb : Bytes l) (hl0 : l.length ≤ 140737488351232) (hn0 : n1 ≤ 9223372036854775807)
    (hw : ∀ i, i < n1 → Fit (acts i)) (hC : Cells w A1 n1 acts) :
    Calls Try.prog 5 #[.slice A0 l.length c0, .slice A1 n1 c1] w fun e w' => e = .returned (.bool true) ∧ Below w.heap.size w w' := by
  by_cases hbig : 2000 < l.length ∨ 200 < n1
  · exact readerActs_big A0 A1 c0 c1 n1 l w hbig hl0 hn0
  · have hl : l.length ≤ 2000 := by omega
    have hn : n1 ≤ 200 := by omega
    have t1 : decide ((2000 : Int) < (l.length : Int)) = false := decide_eq_false (by omega)
    have t2 : decide (2000 < l.length) = false := decide_eq_false (by omega)
    have t3 : decide ((200 : Int) < (n1 : Int)) = false := decide_eq_false (by omega)
    have t4 : decide (200 < n1) = false := decide_eq_false (by omega)
    have HRUN := Aside0.mk (fun w1 b1 => acts_run (w := w) (w1 := w1) (c1 := c1) hr0 hc0 hb hl hn hw hC b1)
    have HC := Aside0.mk hC
    have HBY := Aside0.mk hb
    have HLL := Aside0.mk hl
    have HF := Aside0.mk hw
    have hmf := hmf
    clear hbig hr0 hb hw hC hl0 hn0
    go_enter Try.func5, Try.ntmps5
    go_wp2_with fail
    refine (alive_calls _).mono ?_
    rintro e w1 ⟨rfl, b1⟩
    have hbb := blk_below (blk_alloc (heap_alloc_new w (.cells #[.slice A0 l.length c0] 22)) _) b1
    have cb : w1.cell? ⟨w.heap.size, 0, none⟩ = some (.slice A0 l.length c0) := (blk_cell hbb 0).trans rfl
    have hbl : ((w.alloc (.cells #[.slice A0 l.length c0] 22)).alloc (.cells #[.slice A1 n1 c1] 35)).heap[w.heap.size + 1]? = some (.cells #[.slice A1 n1 c1] 35 (0, 0)) := by
      have := heap_alloc_new (w.alloc (.cells #[.slice A0 l.length c0] 22)) (.cells #[.slice A1 n1 c1] 35)
      simpa using this
    have hbl1 := blk_below hbl b1
    have cl : w1.cell? ⟨w.heap.size + 1, 0, none⟩ = some (.slice A1 n1 c1) := (blk_cell hbl1 0).trans rfl
    have HR := Aside0.mk (HRUN.out w1 (by simpa using b1))
    have hlt : w.heap.size + 1 < w1.heap.size := blk_lt hbl1
    have hlt0 : w.heap.size < w1.heap.size := by omega
    have hs1 : w.heap.size < w1.heap.size + 1 := by omega
    have hs2 : w.heap.size < w1.heap.size + 1 + 1 := by omega
    have hs3 : w.heap.size < w1.heap.size + 1 + 1 + 1 := by omega
    have hs4 : w.heap.size < w1.heap.size + 1 + 1 + 1 + 1 := by omega
    clear hbb b1 hbl hbl1 HRUN
    go_wp2_with fail
    refine HR.out.mono ?_
    rintro e w2 ⟨a, er, done, over, rfl, hbeh, hcase⟩
    have HBE := Aside0.mk hbeh
    clear HR cb cl hlt hlt0 hs1 hs2 hs3 hs4 hmf t1 t2 t3 t4
    rcases hcase with ⟨rfl, rfl, rfl⟩ | ⟨rfl, j, hj, rfl, hend, hne⟩
    · have d1 := HBE.out.done_
      have d2 := HBE.out.over_
      have d3 := HBE.out.good_
      have d4 := HBE.out.ptr
      obtain ⟨x, hx⟩ : ∃ x : Int, (if a < l.length then 7 else 0) = x := ⟨_, rfl⟩
      have HD := Aside0.mk (done_calls HBE.out.m HBE.out.below (x := x) (by rw [← hx]; by_cases h : a < l.length <;> simp [h]))
      rw [hx]
      clear hx
      have q1 : ((a : Int) == (a : Int)) = true := by simp
      have q2 : (x == x) = true := by simp
      have q3 : (a : Int) ≤ 2000 := by have := HBE.out.le; have := HLL.out; omega
      clear hbeh
      by_cases h0 : n1 = 0
      all_goals
        have z1 : decide ((0 : Int) < (n1 : Int)) = (if n1 = 0 then false else true) := by split <;> simp <;> omega
        have z2 : decide (0 < n1) = (if n1 = 0 then false else true) := by split <;> simp <;> omega
        first | rw [if_pos h0] at z1 z2 | rw [if_neg h0] at z1 z2
        clear h0
        go_wp2_with fail
        refine HD.out.mono ?_
        rintro e w3 ⟨rfl, hb3, hk3⟩
        have d6 := keep_cell hk3 d3 (by show w1.heap.size + 1 + 1 ≠ w1.heap.size; omega)
        clear d1 d2 d3 d4
        go_wp2
        go_ret
        exact ⟨by first | rfl | simp, hb3⟩
    · have d1 := HBE.out.done_
      have d2 := HBE.out.over_
      have d3 := HBE.out.good_
      have d4 := HBE.out.ptr
      have d5 := HBE.out.list
      obtain ⟨ad, e, h0, h1, h2, h3, h4⟩ := HC.out.below HBE.out.below j hj
      subst e
      obtain ⟨x, hx⟩ : ∃ x, acts j = x := ⟨_, rfl⟩
      rw [hx] at h0 h1 h2 h3 h4 hend
      have HFX := Aside0.mk (show Fit x from by rw [← hx]; exact HF.out j hj)
      obtain ⟨kd, mn, mo, ok, er1⟩ := x
      have HE := Aside0.mk hend
      have HNE := Aside0.mk hne
      have z1 : decide ((0 : Int) < (j : Int) + 1) = true := decide_eq_true (by omega)
      have p1 : (0 ≤ (j : Int)) = True := eq_true (by omega)
      have p2 : ((j : Int) < (n1 : Int)) = True := eq_true (by omega)
      have p3 : (j : Int) ≤ 1000 := by omega
      have l4 : w1.heap.size + 1 < w2.heap.size := World.block_lt_of_cell? w2 _ d4
      have HL4 := Aside0.mk (show w1.heap.size < w2.heap.size from by omega)
      have HMM := Aside0.mk (PRf.IsS38.alloc HBE.out.m (.cells #[.int .i64 kd, .int .i64 mn, .int .u64 mo, .bool ok, .int .u8 er1] 41))
      have HBB := Aside0.mk (below_alloc HBE.out.below (.cells #[.int .i64 kd, .int .i64 mn, .int .u64 mo, .bool ok, .int .u8 er1] 41))
      have HDG := Aside0.mk (show ∀ o, (w2.alloc o).cell? ⟨w1.heap.size + 1 + 1, 0, none⟩ = some (.bool true) from fun o => pw_cell_below (below_alloc (Below.refl _ _) o) d3)
      have HDP := Aside0.mk (show ∀ o, (w2.alloc o).cell? ⟨w1.heap.size + 1, 0, none⟩ = some (.pointer (some ⟨w1.heap.size, 0, none⟩)) from fun o => pw_cell_below (below_alloc (Below.refl _ _) o) d4)
      have HLE := Aside0.mk HBE.out.le
      have q1 : ((a : Int) == (a : Int)) = true := by simp
      have q2 : (er == er) = true := by simp
      have q3 : (a : Int) ≤ 2000 := by have := HBE.out.le; have := HLL.out; omega
      clear hbeh hend hne hx
      dsimp only at h0 h1 h2 h3 h4
      by_cases hkd : kd = 0
      · subst hkd
        have hend := HE.out
        unfold endOf at hend
        dsimp only at hend
        rw [if_pos rfl] at hend
        have ha : ¬ a < l.length := fun z => HNE.out (by rw [if_pos z] at hend; exact hend.symm)
        rw [if_neg ha] at hend
        subst hend
        obtain rfl : a = l.length := by have := HLE.out; omega
        clear ha
        have HM := Aside0.mk (M.byte HMM.out HBB.out (RfM.rByte_end l))
        go_wp2_with fail
        refine HM.out.mono ?_
        rintro e w4 ⟨rfl, hm4, hb4, hk4⟩
        have d6 := keep_cell hk4 (HDG.out _) (by show w1.heap.size + 1 + 1 ≠ w1.heap.size; omega)
        have d7 := keep_cell hk4 (HDP.out _) (by show w1.heap.size + 1 ≠ w1.heap.size; omega)
        have HD := Aside0.mk (done_past hm4 hb4 HNE.out)
        clear hm4 hb4 hk4 d1 d2 d3 d4 d5 h0 h1 h2 h3 h4 l4 HM
        go_wp2_with fail
        refine HD.out.mono ?_
        rintro e w5 ⟨rfl, hb5, hk5⟩
        have d8 := keep_cell hk5 d6 (by show w1.heap.size + 1 + 1 ≠ w1.heap.size; omega)
        clear d6 d7
        go_wp2
        go_ret
        exact ⟨by first | rfl | simp, hb5⟩
      have k0 : (kd == 0) = false := beq_eq_false_iff_ne.mpr hkd
      have HK0 := Aside0.mk hkd
      clear hkd
      by_cases hkd : kd = 1
      · subst hkd
        obtain ⟨⟨v, k, e1⟩, hg⟩ : ∃ q, gu (l.drop a) = q := ⟨_, rfl⟩
        have hend := HE.out
        unfold endOf at hend
        dsimp only at hend
        rw [if_neg (by decide), if_pos rfl, hg] at hend
        dsimp only at hend
        have hor : (e1 ≠ 0 ∨ mo < v) ∧ (if e1 = 0 then 3 else e1) = er := by
          by_cases z : e1 = 0
          · rw [if_neg (by simpa using z)] at hend
            by_cases y : mo < v
            · rw [if_pos y] at hend; exact ⟨.inr y, by rw [if_pos z]; exact hend⟩
            · rw [if_neg y] at hend; exact absurd hend.symm HNE.out
          · rw [if_pos z] at hend; exact ⟨.inl z, by rw [if_neg z]; exact hend⟩
        have hf := RfM.rUint_end HBY.out (by have := HLL.out; omega) HLE.out hg hor.1 30 (by decide)
        rw [hor.2] at hf
        have HM := Aside0.mk (M.uint HMM.out HBB.out hf)
        clear hf hor hg hend
        go_wp2_with fail
        refine HM.out.mono ?_
        rintro e w4 ⟨rfl, hm4, hb4, hk4⟩
        have d6 := keep_cell hk4 (HDG.out _) (by show w1.heap.size + 1 + 1 ≠ w1.heap.size; omega)
        have d7 := keep_cell hk4 (HDP.out _) (by show w1.heap.size + 1 ≠ w1.heap.size; omega)
        have HD := Aside0.mk (done_past hm4 hb4 HNE.out)
        clear hm4 hb4 hk4 d1 d2 d3 d4 d5 h0 h1 h2 h3 h4 l4 HM
        go_wp2_with fail
        refine HD.out.mono ?_
        rintro e w5 ⟨rfl, hb5, hk5⟩
        have d8 := keep_cell hk5 d6 (by show w1.heap.size + 1 + 1 ≠ w1.heap.size; omega)
        clear d6 d7
        go_wp2
        go_ret
        exact ⟨by first | rfl | simp, hb5⟩
      have k1 : (kd == 1) = false := beq_eq_false_iff_ne.mpr hkd
      have HK1 := Aside0.mk hkd
      clear hkd
      by_cases hkd : kd = 2
      · subst hkd
        obtain ⟨⟨v, k, e1⟩, hg⟩ : ∃ q, gu (l.drop a) = q := ⟨_, rfl⟩
        have hend := HE.out
        unfold endOf at hend
        dsimp only at hend
        rw [if_neg (by decide), if_neg (by decide), if_pos rfl, hg] at hend
        dsimp only at hend
        subst hend
        have hf := RfM.rInt_end HBY.out (by have := HLL.out; omega) HLE.out hg HNE.out 30 (by decide)
        have HM := Aside0.mk (M.int HMM.out HBB.out hf)
        clear hf hg
        go_wp2_with fail
        refine HM.out.mono ?_
        rintro e w4 ⟨rfl, hm4, hb4, hk4⟩
        have d6 := keep_cell hk4 (HDG.out _) (by show w1.heap.size + 1 + 1 ≠ w1.heap.size; omega)
        have d7 := keep_cell hk4 (HDP.out _) (by show w1.heap.size + 1 ≠ w1.heap.size; omega)
        have HD := Aside0.mk (done_past hm4 hb4 HNE.out)
        clear hm4 hb4 hk4 d1 d2 d3 d4 d5 h0 h1 h2 h3 h4 l4 HM
        go_wp2_with fail
        refine HD.out.mono ?_
        rintro e w5 ⟨rfl, hb5, hk5⟩
        have d8 := keep_cell hk5 d6 (by show w1.heap.size + 1 + 1 ≠ w1.heap.size; omega)
        clear d6 d7
        go_wp2
        go_ret
        exact ⟨by first | rfl | simp, hb5⟩
      have k2 : (kd == 2) = false := beq_eq_false_iff_ne.mpr hkd
      have HK2 := Aside0.mk hkd
      clear hkd
      by_cases hkd : kd = 3
      · subst hkd
        obtain ⟨⟨v, k, e1⟩, hg⟩ : ∃ q, gb (l.drop a) mn = q := ⟨_, rfl⟩
        have hend := HE.out
        unfold endOf at hend
        dsimp only at hend
        rw [if_neg (by decide), if_neg (by decide), if_neg (by decide), if_pos rfl, hg] at hend
        dsimp only at hend
        subst hend
        have hf := RfM.rBytes_end HBY.out (by have := HLL.out; omega) HLE.out HFX.out.many hg HNE.out 30 (by decide)
        have HM := Aside0.mk (M.bytes HMM.out HBB.out hf)
        clear hf hg
        go_wp2_with fail
        refine HM.out.mono ?_
        rintro e w4 ⟨A4, c4, rfl, hc4, hm4, hb4, hk4⟩
        have d6 := keep_cell hk4 (HDG.out _) (by show w1.heap.size + 1 + 1 ≠ w1.heap.size; omega)
        have d7 := keep_cell hk4 (HDP.out _) (by show w1.heap.size + 1 ≠ w1.heap.size; omega)
        have HD := Aside0.mk (done_past hm4 hb4 HNE.out)
        clear hm4 hb4 hk4 d1 d2 d3 d4 d5 h0 h1 h2 h3 h4 l4 HM
        go_wp2_with fail
        refine HD.out.mono ?_
        rintro e w5 ⟨rfl, hb5, hk5⟩
        have d8 := keep_cell hk5 d6 (by show w1.heap.size + 1 + 1 ≠ w1.heap.size; omega)
        clear d6 d7
        go_wp2
        go_ret
        exact ⟨by first | rfl | simp, hb5⟩
      have k3 : (kd == 3) = false := beq_eq_false_iff_ne.mpr hkd
      have HK3 := Aside0.mk hkd
      clear hkd
      by_cases hkd : kd = 4
      · subst hkd
        have hend := HE.out
        unfold endOf at hend
        dsimp only at hend
        rw [if_neg (by decide), if_neg (by decide), if_neg (by decide), if_neg (by decide), if_pos rfl] at hend
        have he0 : 0 ≤ er1 := HFX.out.err.1
        have he1 : er1 < 256 := HFX.out.err.2
        have HM := Aside0.mk (M.must HMM.out HBB.out ok (er1 % 18))
        rw [hend] at HM
        clear hend
        go_wp2_with fail
        refine HM.out.mono ?_
        rintro e w4 ⟨rfl, hm4, hb4, hk4⟩
        have d6 := keep_cell hk4 (HDG.out _) (by show w1.heap.size + 1 + 1 ≠ w1.heap.size; omega)
        have d7 := keep_cell hk4 (HDP.out _) (by show w1.heap.size + 1 ≠ w1.heap.size; omega)
        have HD := Aside0.mk (done_past hm4 hb4 HNE.out)
        clear hm4 hb4 hk4 d1 d2 d3 d4 d5 h0 h1 h2 h3 h4 l4 HM
        go_wp2_with fail
        refine HD.out.mono ?_
        rintro e w5 ⟨rfl, hb5, hk5⟩
        have d8 := keep_cell hk5 d6 (by show w1.heap.size + 1 + 1 ≠ w1.heap.size; omega)
        clear d6 d7
        go_wp2
        go_ret
        exact ⟨by first | rfl | simp, hb5⟩
      have k4 : (kd == 4) = false := beq_eq_false_iff_ne.mpr hkd
      have HK4 := Aside0.mk hkd
      clear hkd
      exact absurd (show (0 : Int) = er from by have h := HE.out; unfold endOf at h; dsimp only at h; rw [if_neg HK0.out, if_neg HK1.out, if_neg HK2.out, if_neg HK3.out, if_neg HK4.out] at h; exact h) HNE.out.symm
end Go.Proofs.Ytamnnaadnjkdiaa.Rd
