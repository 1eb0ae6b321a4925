import Derived.Test.YtmoopdhnnpjcfaaDoorRdAA
import Derived.RegionTactic
import Derived.ChangeAlike
import Derived.BigRegion
import Derived.LaidEqlPtr
namespace Go.Proofs.YtmoopdhnnpjcfaaDoor.Rd
open Go.RowKit Go.Proofs.YtmoopdhnnpjcfaaDoorW.PrintWords Go.Proofs.YtmoopdhnnpjcfaaDoorW.PrintLast Go.Proofs.YtmoopdhnnpjcfaaDoorW.PrintMore Go.Proofs.YtmoopdhnnpjcfaaDoor.Wire
set_option linter.unusedVariables false
set_option linter.unusedSimpArgs false
set_option maxRecDepth 100000

/-- Run's own variables: the place, the error, the reader's variable. -/
structure Vars (W : World) (ba be br g : Nat) : Prop where
  a : W.heap[ba]? = some (.cells #[.int .i64 0] 3 (0, 0))
  e : W.heap[be]? = some (.cells #[.int .i64 0] 26 (0, 0))
  r : W.heap[br]? = some (.cells #[.pointer (some ⟨g, 0, none⟩)] 41 (0, 0))
theorem neq_same {P : Program} (w : World) {tp te : TypeId} {j : TypeInfo} (a : Addr) (hp : P.underlying tp = some (.pointer te)) (hte : P.info? te = some j) :
    (binOp .neq tp (.pointer (some a)) (.pointer (some a))).run P w = .ok (.bool false) w := by
  have h : ∀ d : Nat, (Op.equalIn (d + 1) tp (.pointer (some a)) (.pointer (some a))).run P w = .ok true w := fun d => by
    simp [Op.equalIn, run_underlying hp, sizeOf, typeInfo, hte, run_sameAddr_same]
  simp only [binOp]
  simp [Op.equal, Op.maxDepth, h 9999]
theorem neq_reader (g : Nat) (w : World) : (binOp .neq 41 (.pointer (some ⟨g, 0, none⟩)) (.pointer (some ⟨g, 0, none⟩))).run Tryd.prog w = .ok (.bool false) w := by
  have h : (Tryd.prog.info? 120).isSome = true := by kernel_rfl
  obtain ⟨j, hj⟩ := Option.isSome_iff_exists.mp h
  exact neq_same w _ Tryd.underlying41 hj
theorem wpS_plain {P : Program} {c : Code} {Q : Exit → Act → List Frame → World → Prop} {a : Act} {cs : List Frame} {w : World} (S : World → Prop)
    (h : ∀ Q' : Exit → Act → World → Prop, Aside0 (∀ a' w', a'.defers = [] → S w' → Q' .normal a' w') → c.wp P Q' a w) (hq : ∀ a' w', a'.defers = [] → S w' → Q .normal a' cs w') : c.wpS P Q a cs w :=
  wpS_of_wp (h _ ⟨hq⟩)
theorem Vars.ne {W : World} {ba be br g : Nat} (h : Vars W ba be br g) : ba ≠ be ∧ ba ≠ br ∧ be ≠ br := ⟨blk_ne h.a h.e (by decide), blk_ne h.a h.r (by decide), blk_ne h.e h.r (by decide)⟩
set_option maxHeartbeats 2000000 in
theorem done_idle {W : World} {ba be br g : Nat} {A : Option Addr} {n c a : Nat} (hg : At W g A n c a true) (hr : W.heap[br]? = some (.cells #[.pointer (some ⟨g, 0, none⟩)] 41 (0, 0))) :
    CallsD Tryd.prog 73 #[.pointer (some ⟨br, 0, none⟩), .pointer (some ⟨ba, 0, none⟩), .pointer (some ⟨be, 0, none⟩)] .returning W fun e u' w' => e = .returned (.tuple #[]) ∧ u' = .returning ∧ w' = W.setCell ⟨g, 2, none⟩ (.bool false) := by
  have cr : W.cell? ⟨br, 0, none⟩ = some (.pointer (some ⟨g, 0, none⟩)) := (blk_cell hr 0).trans rfl
  have c2 : W.cell? ⟨g, 2, none⟩ = some (.bool true) := (blk_cell hg 2).trans rfl
  have f2 := blk_frozen hg 2
  clear hg hr
  refine callsD_of_wpS Tryd.func73 rfl fun c₀ cs hu => ?_
  simp only [Tryd.ntmps73, List.size_toArray, List.length_cons, List.length_nil, Nat.reduceAdd, Nat.reduceSub, Array.replicate_succ, Array.replicate_zero, List.push_toArray, List.append_toArray, List.nil_append, List.cons_append]
  apply wpS_seq
  apply wpS_region
  simp [wpOpsS, go_sem, cr, c2, f2, Tryd.ntmps73, Exit.thenS]
  apply wpS_seq
  apply wpS_region
  simp [wpOpsS, go_sem, recoverD, hu, Exit.thenS]
  refine wpS_plain (fun w' => w' = W.setCell ⟨g, 2, none⟩ (.bool false)) (fun Q' HQ => ?_) ?_
  · clear hu
    go_wp2
    exact HQ.out _ _ rfl rfl
  · rintro a' w' hd rfl
    refine ⟨hd, .returning, ?_, _, by simp [results, Tryd.results73], rfl, rfl, rfl⟩
    cases c₀
    simp_all
set_option maxHeartbeats 2000000 in
theorem done_ends {W : World} {ba be br g : Nat} {A : Option Addr} {n c a : Nat} (er : Int) (hg : At W g A n c a true) (hv : Vars W ba be br g) (older : List PanicEntry) :
    CallsD Tryd.prog 73 #[.pointer (some ⟨br, 0, none⟩), .pointer (some ⟨ba, 0, none⟩), .pointer (some ⟨be, 0, none⟩)] (.panicking (ends g er :: older)) W fun e u' w' => e = .returned (.tuple #[]) ∧ u' = .panicking ({ (ends g er) with recovered := true } :: older) ∧
      ∃ o, w' = ((((W.setCell ⟨g, 2, none⟩ (.bool false)).setCell ⟨ba, 0, none⟩ (.int .i64 (a : Int))).setCell ⟨be, 0, none⟩ (.int .i64 er)).alloc o).drew := by
  have cr : W.cell? ⟨br, 0, none⟩ = some (.pointer (some ⟨g, 0, none⟩)) := (blk_cell hv.r 0).trans rfl
  have ca : W.cell? ⟨ba, 0, none⟩ = some (.int .i64 0) := (blk_cell hv.a 0).trans rfl
  have ce : W.cell? ⟨be, 0, none⟩ = some (.int .i64 0) := (blk_cell hv.e 0).trans rfl
  have c1 : W.cell? ⟨g, 1, none⟩ = some (.int .i64 (a : Int)) := (blk_cell hg 1).trans rfl
  have c2 : W.cell? ⟨g, 2, none⟩ = some (.bool true) := (blk_cell hg 2).trans rfl
  have f2 := blk_frozen hg 2
  have fa := blk_frozen hv.a 0
  have fe := blk_frozen hv.e 0
  refine callsD_of_wpS Tryd.func73 rfl fun c₀ cs hu => ?_
  simp only [Tryd.ntmps73, List.size_toArray, List.length_cons, List.length_nil, Nat.reduceAdd, Nat.reduceSub, Array.replicate_succ, Array.replicate_zero, List.push_toArray, List.append_toArray, List.nil_append, List.cons_append]
  apply wpS_seq
  apply wpS_region
  simp [wpOpsS, go_sem, cr, c2, f2, Tryd.ntmps73, Exit.thenS]
  apply wpS_seq
  apply wpS_region
  simp [wpOpsS, go_sem, recoverD, hu, ends, Exit.thenS]
  have hta : ∀ x w, (Instr.typeAssert (.iface 122 x) 20 122 true).run Tryd.prog w = .ok (.tuple #[x, .bool true]) w := fun _ _ => by kernel_rfl
  have hab : ¬ ba = be := hv.ne.1
  have hba : ¬ be = ba := fun z => hv.ne.1 z.symm
  have lba : ba < W.heap.size := blk_lt hv.a
  have lbe : be < W.heap.size := blk_lt hv.e
  have lbr : br < W.heap.size := blk_lt hv.r
  have lg : g < W.heap.size := blk_lt hg
  refine wpS_plain (fun w' => ∃ o, w' = ((((W.setCell ⟨g, 2, none⟩ (.bool false)).setCell ⟨ba, 0, none⟩ (.int .i64 (a : Int))).setCell ⟨be, 0, none⟩ (.int .i64 er)).alloc o).drew) (fun Q' HQ => ?_) ?_
  · clear hu hg hv
    have hnp := neq_reader g
    go_wp2
    go_region
    (try simp only [Exit.inBlock])
    exact HQ.out _ _ rfl ⟨_, rfl⟩
  · rintro a' w' hd hS
    refine ⟨hd, _, rfl, _, by simp [results, Tryd.results73], rfl, rfl, hS⟩
section
variable {W : World} {A : Option Addr} {n c : Nat}
theorem run_none (W : World) (A : Option Addr) (n c : Nat) : Calls Tryd.prog 27 #[.slice A n c, .nilFunc] W fun e w' => e = .returned (.tuple #[.int .i64 0, .int .i64 1]) ∧ Below W.heap.size W w' := by
  have heq : ∀ w, (binOp BinOp.eql 43 Value.nilFunc Value.nilFunc).run Tryd.prog w = .ok (.bool true) w := fun _ => by kernel_rfl
  go_enter_defers Tryd.func27, Tryd.ntmps27
  go_wp2
  simp [bodyPostD, Leaves, results, Tryd.results27, go_sem]
  repeat (first | exact Below.refl _ _ | apply below_alloc)
theorem At.far_set {W : World} {g : Nat} {A : Option Addr} {n c a : Nat} {o : Bool} (h : At W g A n c a o) {p : Addr} (hp : g ≠ p.block) (u : Value) : At (W.setCell p u) g A n c a o := blk_far h hp u
/-- What Run's own blocks come to. -/
theorem At.drew {W : World} {g : Nat} {A : Option Addr} {n c a : Nat} {o : Bool} (h : At W g A n c a o) : At W.drew g A n c a o := h
theorem run_end {W w1 w2 : World} {g : Nat} {Sx : Nat → Prop} {W1 : World} (hb : Below W.heap.size W W1) (hk : Kp (fun k => k = g ∨ Sx k) W1 w1) (hg : W.heap.size ≤ g) (hg1 : g < W1.heap.size)
    (hw : Kp (fun k => W.heap.size ≤ k ∧ k < W1.heap.size) w1 w2) : Kp Sx W w2 := by
  refine ((Kp.of_below hb Sx).then_ hk ?_).then_ hw ?_
  · rintro k (rfl | z)
    · exact .inr hg
    · exact .inl z
  · rintro k ⟨z, _⟩
    exact .inr z
/-- What a function that reads leaves: all but the reader's block g and the blocks of Sx stands; it has come to an end, or the reader has ended it. -/
def Left_ (Sx : Nat → Prop) (g : Nat) (A : Option Addr) (n c : Nat) (W1 : World) (Done : Nat → World → Prop) (Ended : Nat → Int → World → Prop) (e : Ending) (w' : World) : Prop :=
  Kp (fun k => k = g ∨ Sx k) W1 w' ∧ ((e = .returned (.tuple #[]) ∧ ∃ a, At w' g A n c a true ∧ a ≤ n ∧ Done a w') ∨ (∃ a er, e = .panicked [ends g er] ∧ At w' g A n c a true ∧ a ≤ n ∧ Ended a er w'))
set_option maxHeartbeats 2000000 in
theorem run_calls {fn : Nat} {caps : Array Value} (Sx : Nat → Prop) (Done : Nat → Nat → Nat → World → Prop) (Ended : Nat → Nat → Nat → Int → World → Prop)
    (hn : n ≤ 9223372036854775807) (hS : ∀ k, Sx k → k < W.heap.size) (hcf : ∀ args w, (callFunc fn args).run Tryd.prog w = .ok (.enter fn args) w)
    (hf : ∀ g W1, At W1 g A n c 0 true → Below W.heap.size W W1 → W.heap.size ≤ g → g < W1.heap.size →
      Calls Tryd.prog fn (#[.pointer (some ⟨g, 0, none⟩)] ++ caps) W1 (Left_ Sx g A n c W1 (Done g W1.heap.size) (Ended g W1.heap.size))) :
    Calls Tryd.prog 27 #[.slice A n c, .func (.func fn) #[] caps] W fun e w' => ∃ g h1 a er w1, e = .returned (.tuple #[.int .i64 ((a : Nat) : Int), .int .i64 er]) ∧ W.heap.size ≤ g ∧ g < h1 ∧ h1 ≤ w1.heap.size ∧ Kp Sx W w' ∧ Kp (fun k => W.heap.size ≤ k ∧ k < h1) w1 w' ∧ At w' g A n c a false ∧ a ≤ n ∧
      ((Done g h1 a w1 ∧ er = (if a < n then 7 else 0)) ∨ Ended g h1 a er w1) := by
  have heq : ∀ w, (binOp BinOp.eql 43 (Value.func (.func fn) #[] caps) Value.nilFunc).run Tryd.prog w = .ok (.bool false) w := fun _ => by rfl
  have hmf : ∀ (fn : Fn) (first cap : Array Value) (w : World), (Instr.makeFunc fn first cap).run Tryd.prog w = .ok (.func fn first cap) w := fun _ _ _ _ => rfl
  have HF := Aside0.mk hf
  have HS := Aside0.mk hS
  clear hf hS
  go_enter_defers Tryd.func27, Tryd.ntmps27
  go_wp2_with fail
  have hbase : W.heap.size + 1 + 1 + 1 + 1 = (((((W.alloc (Obj.cells #[Value.int IntKind.i64 0] 3)).alloc (Obj.cells #[Value.int IntKind.i64 0] 26)).alloc
          (Obj.cells #[Value.slice A n c, Value.int IntKind.i64 0, Value.bool true] 120)).alloc
      (Obj.cells #[Value.pointer (some { block := W.heap.size + 1 + 1, off := 0 })] 41))).heap.size := by simp
  have HBASE := Aside0.mk hbase
  clear hbase
  refine (HF.out (W.heap.size + 1 + 1) _ ?_ ?_ ?_ ?_).mono ?_
  · refine blk_alloc ?_ _
    have := heap_alloc_new ((W.alloc (Obj.cells #[Value.int IntKind.i64 0] 3)).alloc (Obj.cells #[Value.int IntKind.i64 0] 26)) (Obj.cells #[Value.slice A n c, Value.int IntKind.i64 0, Value.bool true] 120)
    simpa using this
  · repeat (first | exact Below.refl _ _ | apply below_alloc)
  · omega
  · simp
  rintro e w1 ⟨hk, hcase⟩
  have hV : Vars w1 W.heap.size (W.heap.size + 1) (W.heap.size + 1 + 1 + 1) (W.heap.size + 1 + 1) := by
    refine ⟨hk.blk ?_ ?_, hk.blk ?_ ?_, hk.blk ?_ ?_⟩
    · exact blk_alloc (blk_alloc (blk_alloc (heap_alloc_new W _) _) _) _
    · rintro (z | z)
      · omega
      · have := HS.out _ z; omega
    · refine blk_alloc (blk_alloc ?_ _) _
      have := heap_alloc_new (W.alloc (Obj.cells #[Value.int IntKind.i64 0] 3)) (Obj.cells #[Value.int IntKind.i64 0] 26)
      simpa using this
    · rintro (z | z)
      · omega
      · have := HS.out _ z; omega
    · have := heap_alloc_new (((W.alloc (Obj.cells #[Value.int IntKind.i64 0] 3)).alloc (Obj.cells #[Value.int IntKind.i64 0] 26)).alloc (Obj.cells #[Value.slice A n c, Value.int IntKind.i64 0, Value.bool true] 120)) (Obj.cells #[Value.pointer (some { block := W.heap.size + 1 + 1, off := 0 })] 41)
      simpa using this
    · rintro (z | z)
      · omega
      · have := HS.out _ z; omega
  have HV := Aside0.mk hV
  have HK := Aside0.mk hk
  clear hV hk HF HBASE
  rcases hcase with ⟨rfl, a, hat, ha, hd⟩ | ⟨a, er, rfl, hat, ha, he⟩
  · have HAT := Aside0.mk hat
    have HD := Aside0.mk hd
    have cr : w1.cell? ⟨W.heap.size + 1 + 1 + 1, 0, none⟩ = some (.pointer (some ⟨W.heap.size + 1 + 1, 0, none⟩)) := (blk_cell HV.out.r 0).trans rfl
    have c1 : w1.cell? ⟨W.heap.size + 1 + 1, 1, none⟩ = some (.int .i64 (a : Int)) := (blk_cell HAT.out 1).trans rfl
    have ca : w1.cell? ⟨W.heap.size, 0, none⟩ = some (.int .i64 0) := (blk_cell HV.out.a 0).trans rfl
    have ce : w1.cell? ⟨W.heap.size + 1, 0, none⟩ = some (.int .i64 0) := (blk_cell HV.out.e 0).trans rfl
    have fa := blk_frozen HV.out.a 0
    have fe := blk_frozen HV.out.e 0
    clear hat hd
    have HB1 : Below W.heap.size W (((((W.alloc (Obj.cells #[Value.int IntKind.i64 0] 3)).alloc (Obj.cells #[Value.int IntKind.i64 0] 26)).alloc
          (Obj.cells #[Value.slice A n c, Value.int IntKind.i64 0, Value.bool true] 120)).alloc
      (Obj.cells #[Value.pointer (some { block := W.heap.size + 1 + 1, off := 0 })] 41))) := by repeat (first | exact Below.refl _ _ | apply below_alloc)
    have HB1 := Aside0.mk HB1
    have HSZ := Aside0.mk (show (((((W.alloc (Obj.cells #[Value.int IntKind.i64 0] 3)).alloc (Obj.cells #[Value.int IntKind.i64 0] 26)).alloc
          (Obj.cells #[Value.slice A n c, Value.int IntKind.i64 0, Value.bool true] 120)).alloc
      (Obj.cells #[Value.pointer (some { block := W.heap.size + 1 + 1, off := 0 })] 41))).heap.size = W.heap.size + 4 by simp)
    generalize (((((W.alloc (Obj.cells #[Value.int IntKind.i64 0] 3)).alloc (Obj.cells #[Value.int IntKind.i64 0] 26)).alloc
          (Obj.cells #[Value.slice A n c, Value.int IntKind.i64 0, Value.bool true] 120)).alloc
      (Obj.cells #[Value.pointer (some { block := W.heap.size + 1 + 1, off := 0 })] 41))) = W1 at *
    have HN := Aside0.mk HV.out.ne
    have fin : ∀ (er : Int) (w2 : World) (tm : Array Value), tm.getD 4 undef = .pointer (some ⟨W.heap.size, 0, none⟩) → tm.getD 5 undef = .pointer (some ⟨W.heap.size + 1, 0, none⟩) → er = (if a < n then 7 else 0) →
        w2.heap[W.heap.size]? = some (.cells #[.int .i64 (a : Int)] 3 (0, 0)) → w2.heap[W.heap.size + 1]? = some (.cells #[.int .i64 er] 26 (0, 0)) → At w2 (W.heap.size + 1 + 1) A n c a true →
        Kp (fun k => W.heap.size ≤ k ∧ k < W1.heap.size) w1 w2 →
        Leaves Tryd.prog Tryd.f27 tm (fun e w' => ∃ g h1 a er w1, e = .returned (.tuple #[.int .i64 ((a : Nat) : Int), .int .i64 er]) ∧ W.heap.size ≤ g ∧ g < h1 ∧ h1 ≤ w1.heap.size ∧ Kp Sx W w' ∧ Kp (fun k => W.heap.size ≤ k ∧ k < h1) w1 w' ∧ At w' g A n c a false ∧ a ≤ n ∧
          ((Done g h1 a w1 ∧ er = (if a < n then 7 else 0)) ∨ Ended g h1 a er w1)) [] .returning (w2.setCell ⟨W.heap.size + 1 + 1, 2, none⟩ (.bool false)) := by
      intro er w2 tm e4 e5 her ha2 he2 hat2 hk2
      have d1 : (w2.setCell ⟨W.heap.size + 1 + 1, 2, none⟩ (.bool false)).cell? ⟨W.heap.size, 0, none⟩ = some (.int .i64 (a : Int)) := (blk_cell (blk_far ha2 (p := ⟨W.heap.size + 1 + 1, 2, none⟩) (by show W.heap.size ≠ W.heap.size + 1 + 1; omega) _) 0).trans rfl
      have d2 : (w2.setCell ⟨W.heap.size + 1 + 1, 2, none⟩ (.bool false)).cell? ⟨W.heap.size + 1, 0, none⟩ = some (.int .i64 er) := (blk_cell (blk_far he2 (p := ⟨W.heap.size + 1 + 1, 2, none⟩) (by show W.heap.size + 1 ≠ W.heap.size + 1 + 1; omega) _) 0).trans rfl
      have hk3 : Kp (fun k => W.heap.size ≤ k ∧ k < W1.heap.size) w1 (w2.setCell ⟨W.heap.size + 1 + 1, 2, none⟩ (.bool false)) := hk2.setCell (.inl ⟨by show W.heap.size ≤ W.heap.size + 1 + 1; omega, by show W.heap.size + 1 + 1 < W1.heap.size; rw [HSZ.out]; omega⟩) _
      refine ⟨.tuple #[.int .i64 (a : Int), .int .i64 er], ?_, ?_⟩
      · simp only [results, Tryd.results27]
        rw [Array.getD_eq_getD_getElem?] at e4 e5
        simp [go_sem, e4, e5, d1, d2]
      · exact ⟨W.heap.size + 1 + 1, W1.heap.size, a, er, w1, rfl, by omega, by rw [HSZ.out]; omega, HK.out.size, run_end HB1.out HK.out (by omega) (by rw [HSZ.out]; omega) hk3, hk3, hat2.close, ha, .inl ⟨HD.out, her⟩⟩
    have HFIN := Aside0.mk fin
    clear fin
    by_cases hlt : a < n
    · have t1 : decide ((a : Int) < (n : Int)) = true := decide_eq_true (by omega)
      have t2 : decide (a < n) = true := decide_eq_true hlt
      have HLT := Aside0.mk hlt
      clear hlt
      go_wp2
      go_region
      go_wp2
      refine leaves_cons (f := 73) (args := #[.pointer (some ⟨W.heap.size + 1 + 1 + 1, 0, none⟩), .pointer (some ⟨W.heap.size, 0, none⟩), .pointer (some ⟨W.heap.size + 1, 0, none⟩)]) (by simp) (by simp [go_sem]) ?_
      have q1 : W.heap.size + 1 + 1 ≠ W.heap.size + 1 := by omega
      have q2 : W.heap.size + 1 + 1 ≠ W.heap.size := by omega
      have q3 : W.heap.size + 1 + 1 + 1 ≠ W.heap.size + 1 := by omega
      have q4 : W.heap.size + 1 + 1 + 1 ≠ W.heap.size := by omega
      have q5 : W.heap.size + 1 ≠ W.heap.size := by omega
      have q6 : W.heap.size ≠ W.heap.size + 1 := by omega
      refine (done_idle (a := a) (n := n) (c := c) (A := A) (((HAT.out.far_set (p := ⟨W.heap.size + 1, 0, none⟩) q1 _).far_set (p := ⟨W.heap.size, 0, none⟩) q2 _).far_set (p := ⟨W.heap.size + 1, 0, none⟩) q1 _).drew (blk_drew (blk_far (p := ⟨W.heap.size + 1, 0, none⟩) (blk_far (p := ⟨W.heap.size, 0, none⟩) (blk_far (p := ⟨W.heap.size + 1, 0, none⟩) HV.out.r q3 _) q4 _) q3 _))).mono ?_
      rintro e u' w'' ⟨rfl, rfl, rfl⟩
      refine HFIN.out 7 _ _ rfl rfl (by rw [if_pos HLT.out]) ?_ ?_ (((HAT.out.far_set (p := ⟨W.heap.size + 1, 0, none⟩) q1 _).far_set (p := ⟨W.heap.size, 0, none⟩) q2 _).far_set (p := ⟨W.heap.size + 1, 0, none⟩) q1 _) ?_
      · exact blk_far (p := ⟨W.heap.size + 1, 0, none⟩) (blk_put (blk_far (p := ⟨W.heap.size + 1, 0, none⟩) HV.out.a q6 _) 0 _ rfl) q6 _
      · exact blk_put (blk_far (p := ⟨W.heap.size, 0, none⟩) (blk_put HV.out.e 0 (.int .i64 7) rfl) q5 _) 0 _ rfl
      · exact ((((Kp.refl _ w1).setCell (p := ⟨W.heap.size + 1, 0, none⟩) (.inl ⟨by show W.heap.size ≤ W.heap.size + 1; omega, by show W.heap.size + 1 < W1.heap.size; rw [HSZ.out]; omega⟩) _).setCell (p := ⟨W.heap.size, 0, none⟩) (.inl ⟨by show W.heap.size ≤ W.heap.size; omega, by show W.heap.size < W1.heap.size; rw [HSZ.out]; omega⟩) _).setCell (p := ⟨W.heap.size + 1, 0, none⟩) (.inl ⟨by show W.heap.size ≤ W.heap.size + 1; omega, by show W.heap.size + 1 < W1.heap.size; rw [HSZ.out]; omega⟩) _).drew
    · have t1 : decide ((a : Int) < (n : Int)) = false := decide_eq_false (by omega)
      have t2 : decide (a < n) = false := decide_eq_false hlt
      have HLT := Aside0.mk hlt
      clear hlt
      go_wp2
      go_region
      go_wp2
      refine leaves_cons (f := 73) (args := #[.pointer (some ⟨W.heap.size + 1 + 1 + 1, 0, none⟩), .pointer (some ⟨W.heap.size, 0, none⟩), .pointer (some ⟨W.heap.size + 1, 0, none⟩)]) (by simp) (by simp [go_sem]) ?_
      have q1 : W.heap.size + 1 + 1 ≠ W.heap.size + 1 := by omega
      have q2 : W.heap.size + 1 + 1 ≠ W.heap.size := by omega
      have q3 : W.heap.size + 1 + 1 + 1 ≠ W.heap.size + 1 := by omega
      have q4 : W.heap.size + 1 + 1 + 1 ≠ W.heap.size := by omega
      have q5 : W.heap.size + 1 ≠ W.heap.size := by omega
      have q6 : W.heap.size ≠ W.heap.size + 1 := by omega
      refine (done_idle (a := a) (n := n) (c := c) (A := A) ((HAT.out.far_set (p := ⟨W.heap.size, 0, none⟩) q2 _).far_set (p := ⟨W.heap.size + 1, 0, none⟩) q1 _).drew (blk_drew (blk_far (p := ⟨W.heap.size + 1, 0, none⟩) (blk_far (p := ⟨W.heap.size, 0, none⟩) HV.out.r q4 _) q3 _))).mono ?_
      rintro e u' w'' ⟨rfl, rfl, rfl⟩
      refine HFIN.out 0 _ _ rfl rfl (by rw [if_neg HLT.out]) ?_ ?_ ((HAT.out.far_set (p := ⟨W.heap.size, 0, none⟩) q2 _).far_set (p := ⟨W.heap.size + 1, 0, none⟩) q1 _) ?_
      · exact blk_far (p := ⟨W.heap.size + 1, 0, none⟩) (blk_put HV.out.a 0 _ rfl) q6 _
      · exact blk_put (blk_far (p := ⟨W.heap.size, 0, none⟩) HV.out.e q5 _) 0 _ rfl
      · exact (((Kp.refl _ w1).setCell (p := ⟨W.heap.size, 0, none⟩) (.inl ⟨by show W.heap.size ≤ W.heap.size; omega, by show W.heap.size < W1.heap.size; rw [HSZ.out]; omega⟩) _).setCell (p := ⟨W.heap.size + 1, 0, none⟩) (.inl ⟨by show W.heap.size ≤ W.heap.size + 1; omega, by show W.heap.size + 1 < W1.heap.size; rw [HSZ.out]; omega⟩) _).drew
  · have HAT := Aside0.mk hat
    have HE := Aside0.mk he
    clear hat he
    have HB1 : Below W.heap.size W (((((W.alloc (Obj.cells #[Value.int IntKind.i64 0] 3)).alloc (Obj.cells #[Value.int IntKind.i64 0] 26)).alloc
          (Obj.cells #[Value.slice A n c, Value.int IntKind.i64 0, Value.bool true] 120)).alloc
      (Obj.cells #[Value.pointer (some { block := W.heap.size + 1 + 1, off := 0 })] 41))) := by repeat (first | exact Below.refl _ _ | apply below_alloc)
    have HB1 := Aside0.mk HB1
    have HSZ := Aside0.mk (show (((((W.alloc (Obj.cells #[Value.int IntKind.i64 0] 3)).alloc (Obj.cells #[Value.int IntKind.i64 0] 26)).alloc
          (Obj.cells #[Value.slice A n c, Value.int IntKind.i64 0, Value.bool true] 120)).alloc
      (Obj.cells #[Value.pointer (some { block := W.heap.size + 1 + 1, off := 0 })] 41))).heap.size = W.heap.size + 4 by simp)
    generalize (((((W.alloc (Obj.cells #[Value.int IntKind.i64 0] 3)).alloc (Obj.cells #[Value.int IntKind.i64 0] 26)).alloc
          (Obj.cells #[Value.slice A n c, Value.int IntKind.i64 0, Value.bool true] 120)).alloc
      (Obj.cells #[Value.pointer (some { block := W.heap.size + 1 + 1, off := 0 })] 41))) = W1 at *
    go_wp2
    refine leaves_cons (f := 73) (args := #[.pointer (some ⟨W.heap.size + 1 + 1 + 1, 0, none⟩), .pointer (some ⟨W.heap.size, 0, none⟩), .pointer (some ⟨W.heap.size + 1, 0, none⟩)]) (by simp) (by simp [go_sem]) ?_
    have q1 : W.heap.size + 1 + 1 ≠ W.heap.size + 1 := by omega
    have q2 : W.heap.size + 1 + 1 ≠ W.heap.size := by omega
    have q5 : W.heap.size + 1 ≠ W.heap.size := by omega
    have q6 : W.heap.size ≠ W.heap.size + 1 := by omega
    have q7 : W.heap.size ≠ W.heap.size + 1 + 1 := by omega
    have q8 : W.heap.size + 1 ≠ W.heap.size + 1 + 1 := by omega
    refine (done_ends er HAT.out HV.out []).mono ?_
    rintro e u' w'' ⟨rfl, rfl, o, rfl⟩
    have ha2 : ((((w1.setCell ⟨W.heap.size + 1 + 1, 2, none⟩ (.bool false)).setCell ⟨W.heap.size, 0, none⟩ (.int .i64 (a : Int))).setCell ⟨W.heap.size + 1, 0, none⟩ (.int .i64 er)).alloc o).heap[W.heap.size]? = some (.cells #[.int .i64 (a : Int)] 3 (0, 0)) :=
      blk_alloc (blk_far (p := ⟨W.heap.size + 1, 0, none⟩) (blk_put (blk_far (p := ⟨W.heap.size + 1 + 1, 2, none⟩) HV.out.a q7 _) 0 _ rfl) q6 _) _
    have he2 : ((((w1.setCell ⟨W.heap.size + 1 + 1, 2, none⟩ (.bool false)).setCell ⟨W.heap.size, 0, none⟩ (.int .i64 (a : Int))).setCell ⟨W.heap.size + 1, 0, none⟩ (.int .i64 er)).alloc o).heap[W.heap.size + 1]? = some (.cells #[.int .i64 er] 26 (0, 0)) :=
      blk_alloc (blk_put (blk_far (p := ⟨W.heap.size, 0, none⟩) (blk_far (p := ⟨W.heap.size + 1 + 1, 2, none⟩) HV.out.e q8 _) q5 _) 0 _ rfl) _
    have hat2 : At ((((w1.setCell ⟨W.heap.size + 1 + 1, 2, none⟩ (.bool false)).setCell ⟨W.heap.size, 0, none⟩ (.int .i64 (a : Int))).setCell ⟨W.heap.size + 1, 0, none⟩ (.int .i64 er)).alloc o) (W.heap.size + 1 + 1) A n c a false :=
      blk_alloc ((HAT.out.close.far_set (p := ⟨W.heap.size, 0, none⟩) q2 _).far_set (p := ⟨W.heap.size + 1, 0, none⟩) q1 _) _
    have hk3 : Kp (fun k => W.heap.size ≤ k ∧ k < W1.heap.size) w1 ((((w1.setCell ⟨W.heap.size + 1 + 1, 2, none⟩ (.bool false)).setCell ⟨W.heap.size, 0, none⟩ (.int .i64 (a : Int))).setCell ⟨W.heap.size + 1, 0, none⟩ (.int .i64 er)).alloc o).drew :=
      (((((Kp.refl _ w1).setCell (p := ⟨W.heap.size + 1 + 1, 2, none⟩) (.inl ⟨by show W.heap.size ≤ W.heap.size + 1 + 1; omega, by show W.heap.size + 1 + 1 < W1.heap.size; rw [HSZ.out]; omega⟩) _).setCell (p := ⟨W.heap.size, 0, none⟩) (.inl ⟨by show W.heap.size ≤ W.heap.size; omega, by show W.heap.size < W1.heap.size; rw [HSZ.out]; omega⟩) _).setCell (p := ⟨W.heap.size + 1, 0, none⟩) (.inl ⟨by show W.heap.size ≤ W.heap.size + 1; omega, by show W.heap.size + 1 < W1.heap.size; rw [HSZ.out]; omega⟩) _).alloc _).drew
    have d1 : ((((w1.setCell ⟨W.heap.size + 1 + 1, 2, none⟩ (.bool false)).setCell ⟨W.heap.size, 0, none⟩ (.int .i64 (a : Int))).setCell ⟨W.heap.size + 1, 0, none⟩ (.int .i64 er)).alloc o).drew.cell? ⟨W.heap.size, 0, none⟩ = some (.int .i64 (a : Int)) := (blk_cell (blk_drew ha2) 0).trans rfl
    have d2 : ((((w1.setCell ⟨W.heap.size + 1 + 1, 2, none⟩ (.bool false)).setCell ⟨W.heap.size, 0, none⟩ (.int .i64 (a : Int))).setCell ⟨W.heap.size + 1, 0, none⟩ (.int .i64 er)).alloc o).drew.cell? ⟨W.heap.size + 1, 0, none⟩ = some (.int .i64 er) := (blk_cell (blk_drew he2) 0).trans rfl
    have hR : ∃ g h1 a_1 er_1 w1_1, Ending.returned (.tuple #[.int .i64 (a : Int), .int .i64 er]) = .returned (.tuple #[.int .i64 ((a_1 : Nat) : Int), .int .i64 er_1]) ∧ W.heap.size ≤ g ∧ g < h1 ∧ h1 ≤ w1_1.heap.size ∧ Kp Sx W ((((w1.setCell ⟨W.heap.size + 1 + 1, 2, none⟩ (.bool false)).setCell ⟨W.heap.size, 0, none⟩ (.int .i64 (a : Int))).setCell ⟨W.heap.size + 1, 0, none⟩ (.int .i64 er)).alloc o).drew ∧ Kp (fun k => W.heap.size ≤ k ∧ k < h1) w1_1 ((((w1.setCell ⟨W.heap.size + 1 + 1, 2, none⟩ (.bool false)).setCell ⟨W.heap.size, 0, none⟩ (.int .i64 (a : Int))).setCell ⟨W.heap.size + 1, 0, none⟩ (.int .i64 er)).alloc o).drew ∧ At ((((w1.setCell ⟨W.heap.size + 1 + 1, 2, none⟩ (.bool false)).setCell ⟨W.heap.size, 0, none⟩ (.int .i64 (a : Int))).setCell ⟨W.heap.size + 1, 0, none⟩ (.int .i64 er)).alloc o).drew g A n c a_1 false ∧ a_1 ≤ n ∧
          ((Done g h1 a_1 w1_1 ∧ er_1 = (if a_1 < n then 7 else 0)) ∨ Ended g h1 a_1 er_1 w1_1) :=
      ⟨W.heap.size + 1 + 1, W1.heap.size, a, er, w1, rfl, by omega, by rw [HSZ.out]; omega, HK.out.size, run_end HB1.out HK.out (by omega) (by rw [HSZ.out]; omega) hk3, hk3, hat2, ha, .inr HE.out⟩
    refine ⟨.tuple #[.int .i64 (a : Int), .int .i64 er], ?_, hR⟩
    simp only [results, Tryd.results27]
    simp [go_sem, d1, d2]
end
end Go.Proofs.YtmoopdhnnpjcfaaDoor.Rd
