import Derived.Test.YtamnnaadnjkdiaaRdK
import Derived.Test.YtamnnaadnjkdiaaMRf
import Derived.Test.YtamnnaadnjkdiaaFrameSpec
/-! ReaderActs: the document's reader beside the other one; the closure. -/
namespace Go.Proofs.Ytamnnaadnjkdiaa.Rd
open Go.RowKit Go.Proofs.YtamnnaadnjkdiaaW.PrintWords Go.Proofs.YtamnnaadnjkdiaaW.PrintLast Go.Proofs.YtamnnaadnjkdiaaW.PrintMore Go.Proofs.Ytamnnaadnjkdiaa.Wire
set_option linter.unusedVariables false
set_option linter.unusedSimpArgs false
set_option maxRecDepth 100000

structure Act where
  kind : Int
  many : Int
  most : Int
  ok : Bool
  err : Int
/-- By what a call ends it at a place (0: it does not). -/
def endOf (l : List Int) (a : Nat) (x : Act) : Int :=
  if x.kind = 0 then (if a < l.length then 0 else 5)
  else if x.kind = 1 then (if (gu (l.drop a)).2.2 ≠ 0 then (gu (l.drop a)).2.2 else if x.most < (gu (l.drop a)).1 then 3 else 0)
  else if x.kind = 2 then (gu (l.drop a)).2.2
  else if x.kind = 3 then (gb (l.drop a) x.many).2.2
  else if x.kind = 4 then (if x.ok = true then 0 else x.err % 18)
  else 0
/-- The acts' cells. -/
def Cells (W : World) (A1 : Option Addr) (n : Nat) (acts : Nat → Act) : Prop := ∀ i, i < n → ∃ ad, A1 = some ad ∧ W.cell? (ad.add (i * 5)) = some (.int .i64 (acts i).kind) ∧ W.cell? ⟨(ad.add (i * 5)).block, (ad.add (i * 5)).off + 1, none⟩ = some (.int .i64 (acts i).many) ∧
  W.cell? ⟨(ad.add (i * 5)).block, (ad.add (i * 5)).off + 2, none⟩ = some (.int .u64 (acts i).most) ∧ W.cell? ⟨(ad.add (i * 5)).block, (ad.add (i * 5)).off + 3, none⟩ = some (.bool (acts i).ok) ∧ W.cell? ⟨(ad.add (i * 5)).block, (ad.add (i * 5)).off + 4, none⟩ = some (.int .u8 (acts i).err)
theorem Cells.below {w0 W : World} {A1 : Option Addr} {n : Nat} {acts : Nat → Act} (h : Cells w0 A1 n acts) (hb : Below w0.heap.size w0 W) : Cells W A1 n acts := fun i hi => by
  obtain ⟨ad, e, h0, h1, h2, h3, h4⟩ := h i hi
  exact ⟨ad, e, pw_cell_below hb h0, pw_cell_below hb h1, pw_cell_below hb h2, pw_cell_below hb h3, pw_cell_below hb h4⟩
structure Fit (x : Act) : Prop where
  many : x.many ≤ 9223372036854775807
  most : 0 ≤ x.most ∧ x.most ≤ 18446744073709551615
  err : 0 ≤ x.err ∧ x.err < 256
namespace M
variable {w0 w : World} {h : Nat} {l : List Int} {a : Nat}
theorem byte (hm : IsM w0 w h l (a : Int) 0) (hb : Below w0.heap.size w0 w) {v b e : Int} (hf : PRf.deckleref03_Reader_Byte.f l (a : Int) 0 = some (v, b, e)) :
    Calls Try.prog 24 #[.pointer (some ⟨h, 0, none⟩)] w fun x w' => x = .returned (.int .u8 v) ∧ IsM w0 w' h l b e ∧ Below w0.heap.size w0 w' ∧ KeepBut w w' h none := PRf.deckleref03_Reader_Byte.calls h l a 0 v b e w0 w hm hb hf
theorem uint (hm : IsM w0 w h l (a : Int) 0) (hb : Below w0.heap.size w0 w) {most v b e : Int} (hf : PRf.deckleref03_Reader_Uint.f 30 l (a : Int) 0 most = some (v, b, e)) :
    Calls Try.prog 26 #[.pointer (some ⟨h, 0, none⟩), .int .u64 most] w fun x w' => x = .returned (.int .u64 v) ∧ IsM w0 w' h l b e ∧ Below w0.heap.size w0 w' ∧ KeepBut w w' h none := PRf.deckleref03_Reader_Uint.calls 30 h l a 0 most v b e w0 w hm hb hf
theorem int (hm : IsM w0 w h l (a : Int) 0) (hb : Below w0.heap.size w0 w) {v b e : Int} (hf : PRf.deckleref03_Reader_Int.f 30 l (a : Int) 0 = some (v, b, e)) :
    Calls Try.prog 28 #[.pointer (some ⟨h, 0, none⟩)] w fun x w' => x = .returned (.int .i64 v) ∧ IsM w0 w' h l b e ∧ Below w0.heap.size w0 w' ∧ KeepBut w w' h none := PRf.deckleref03_Reader_Int.calls 30 h l a 0 v b e w0 w hm hb hf
theorem bytes (hm : IsM w0 w h l (a : Int) 0) (hb : Below w0.heap.size w0 w) {most b e : Int} {v : List Int} (hf : PRf.deckleref03_Reader_Bytes.f 30 l (a : Int) 0 most = some (v, b, e)) :
    Calls Try.prog 30 #[.pointer (some ⟨h, 0, none⟩), .int .i64 most] w fun x w' => ∃ A2 c2, x = .returned (.slice A2 v.length c2) ∧ (Kd.int .u8).C w' A2 v.length v ∧ IsM w0 w' h l b e ∧ Below w0.heap.size w0 w' ∧ KeepBut w w' h none := by
  refine (PRf.deckleref03_Reader_Bytes.calls 30 h l a 0 most v b e w0 w hm hb hf).mono ?_
  rintro x w' ⟨y, rfl, hy, hm', hb', hk⟩
  obtain ⟨A2, c2, rfl⟩ := Kd.R_slice hy
  exact ⟨A2, c2, rfl, (Kd.R_reads' hy).2.2, hm', hb', hk⟩
theorem must (hm : IsM w0 w h l (a : Int) 0) (hb : Below w0.heap.size w0 w) (ok : Bool) (e : Int) :
    Calls Try.prog 31 #[.pointer (some ⟨h, 0, none⟩), .bool ok, .int .i64 e] w fun x w' => x = .returned (.tuple #[]) ∧ IsM w0 w' h l (a : Int) (if ok = true then 0 else e) ∧ Below w0.heap.size w0 w' ∧ KeepBut w w' h none :=
  PRf.deckleref03_Reader_Must.calls h l a 0 ok e a (if ok = true then 0 else e) w0 w hm hb (by unfold PRf.deckleref03_Reader_Must.f; rw [if_pos rfl]; split <;> simp_all)
end M
set_option maxHeartbeats 8000000 in
set_option maxRecDepth 2000000 in
theorem acts_closure {w0 W1 : World} {E : Env} {acts : Nat → Act} (h : St w0 W1 W1 E 0 0 0 true 0 false) (hl : E.l.length ≤ 2000) (hn : E.n1 ≤ 200) (hw : ∀ i, i < E.n1 → Fit (acts i)) (hC : Cells w0 E.A1 E.n1 acts) :
    Calls Try.prog 23 (#[.pointer (some ⟨E.g, 0, none⟩)] ++ #[.pointer (some ⟨E.bg, 0, none⟩), .pointer (some ⟨E.bl, 0, none⟩), .pointer (some ⟨E.bd, 0, none⟩), .pointer (some ⟨E.bm, 0, none⟩), .pointer (some ⟨E.bb, 0, none⟩), .pointer (some ⟨E.bo, 0, none⟩)]) W1
      (Left_ E.Sx E.g E.A E.l.length E.c W1 (fun a w' => St w0 W1 w' E a a 0 true E.n1 true) (fun a er w' => ∃ j, j < E.n1 ∧ St w0 W1 w' E a a 0 true ((j : Int) + 1) false ∧ endOf E.l a (acts j) = er ∧ er ≠ 0)) := by
  have H := Aside0.mk h
  have HW := Aside0.mk hw
  have HC := Aside0.mk hC
  obtain ⟨-, -, c3, -⟩ := h.cells
  have HLL := Aside0.mk hl
  clear h hw hC hl
  go_enter Try.func23, Try.ntmps23
  go_wp2
  go_loopw [18] (fun i wr => ∃ j a : Nat, j ≤ E.n1 ∧ i = .int .i64 (j : Int) ∧ Aside0 (St w0 W1 wr E a a 0 true j false)) (fun i _ => E.n1 - (intOf i).toNat)
  case atStart => exact ⟨0, 0, by omega, rfl, ⟨H.out⟩⟩
  case round =>
    obtain ⟨j, a, hj, rfl, HS⟩ := hrel
    clear c3
    by_cases hlt : j < E.n1
    · have u1 : decide ((j : Int) < (E.n1 : Int)) = true := decide_eq_true (by omega)
      have u2 : decide (j < E.n1) = true := decide_eq_true hlt
      obtain ⟨ad, e, h0, h1, h2, h3, h4⟩ := HC.out.below HS.out.r.base j hlt
      have HF := Aside0.mk (HW.out j hlt)
      have HLT := Aside0.mk hlt
      obtain ⟨x, hx⟩ : ∃ x, acts j = x := ⟨_, rfl⟩
      rw [hx] at h0 h1 h2 h3 h4 HF
      have HX := Aside0.mk hx
      have p1 : (0 ≤ (j : Int)) = True := eq_true (by omega)
      have p2 : ((j : Int) < (E.n1 : Int)) = True := eq_true (by omega)
      have hmax : (j : Int) + 1 ≤ 9223372036854775807 := by omega
      have hbd : E.bd < wr.heap.size := blk_lt HS.out.done_
      have HN := Aside0.mk (show wr.heap.size ≠ E.g ∧ wr.heap.size ≠ E.h ∧ wr.heap.size ≠ E.bg from by
        have q1 := blk_lt HS.out.r.at_
        obtain ⟨A', c', q2⟩ := HS.out.mb
        have q3 := blk_lt q2
        have q4 := blk_lt HS.out.good_
        omega)
      have HAL := Aside0.mk HS.out.r.le
      have HBY := Aside0.mk HS.out.r.by_
      have HLN := Aside0.mk HS.out.r.len
      obtain ⟨kd, mn, mo, ok, er⟩ := x
      have HS1 := Aside0.mk ((HS.out.setDone ((j : Int) + 1)).alloc (.cells #[.int .i64 kd, .int .i64 mn, .int .u64 mo, .bool ok, .int .u8 er] 41))
      have HB1 := Aside0.mk (show ((wr.setCell ⟨E.bd, 0, none⟩ (.int .i64 ((j : Int) + 1))).alloc (.cells #[.int .i64 kd, .int .i64 mn, .int .u64 mo, .bool ok, .int .u8 er] 41)).heap[wr.heap.size]? = some (.cells #[.int .i64 kd, .int .i64 mn, .int .u64 mo, .bool ok, .int .u8 er] 41 (0, 0)) from by
        have q := heap_alloc_new (wr.setCell ⟨E.bd, 0, none⟩ (.int .i64 ((j : Int) + 1))) (.cells #[.int .i64 kd, .int .i64 mn, .int .u64 mo, .bool ok, .int .u8 er] 41)
        rw [show (wr.setCell ⟨E.bd, 0, none⟩ (.int .i64 ((j : Int) + 1))).heap.size = wr.heap.size from by simp [World.setCell]] at q
        exact q)
      obtain ⟨cg, fg, cl, cd, fd, cm, cb, co, fo, m1, m2⟩ := HS.out.cells
      clear hx hlt cl co fo
      rw [e]
      clear e hj
      dsimp only at h0 h1 h2 h3 h4
      by_cases hkd : kd = 0
      · subst hkd
        by_cases ha : a < E.l.length
        · have HA := Aside0.mk ha
          clear ha
          go_wp2_with fail
          obtain ⟨W2, hW2⟩ : ∃ W, (wr.setCell ⟨E.bd, 0, none⟩ (.int .i64 ((j : Int) + 1))).alloc (.cells #[.int .i64 0, .int .i64 mn, .int .u64 mo, .bool ok, .int .u8 er] 41) = W := ⟨_, rfl⟩
          rw [hW2] at HS1 HB1 ⊢
          clear hW2 HS cg fg cd fd cm cb m1 m2 h0 h1 h2 h3 h4 hbd
          refine (HS1.out.r_byte HA.out).mono ?_
          rintro e w3 ⟨rfl, hs3, hk3⟩
          have HS3 := Aside0.mk hs3
          have HM := Aside0.mk (M.byte hs3.m hs3.r.base (RfM.rByte_ok HA.out))
          obtain ⟨-, -, -, -, -, cm, -, -, -, -, -⟩ := hs3.cells
          clear hs3 hk3
          generalize rd E.l (a : Int) = v at *
          have q0 : (v == v) = true := by simp
          go_wp2_with fail
          refine HM.out.mono ?_
          rintro e w4 ⟨rfl, hm4, hb4, hk4⟩
          have HS4 := Aside0.mk (HS3.out.mstep hm4 hb4 hk4)
          clear hm4 hb4 hk4 cm HM
          have HS5 := Aside0.mk (HS4.out.setGood true)
          obtain ⟨cg, fg, -, -, -, -, -, -, -, -, -⟩ := HS4.out.cells
          go_wp2_with fail
          obtain ⟨W5, hW5⟩ : ∃ W, w4.setCell ⟨E.bg, 0, none⟩ (.bool true) = W := ⟨_, rfl⟩
          rw [hW5] at HS5 ⊢
          clear hW5 cg fg
          clear q0
          have HAT := Aside0.mk (fun m => (HS5.out.drewN m).r_at)
          have HLE := Aside0.mk (fun m => (HS5.out.drewN m).r_left)
          have HS9 := Aside0.mk (fun m => (HS5.out.drewN m).setGood true)
          obtain ⟨cg, fg, -, -, -, cm, cb, -, -, m1, m2⟩ := HS5.out.cells
          obtain ⟨np, hnp⟩ : ∃ np : Nat, a + 1 = np := ⟨_, rfl⟩
          rw [hnp] at HAT HLE HS9 m1
          have q1 : ((np : Int) == (np : Int)) = true := by simp
          have q2 : (((E.l.length : Int) - (np : Int)) == ((E.l.length : Int) - (np : Int))) = true := by simp
          have q3 : (np : Int) ≤ 2000 := by have := (HS9.out 0).r.le; have := HLL.out; omega
          have q4 : (E.l.length : Int) ≤ 2000 := by have := HLL.out; omega
          clear hnp
          go_wp2_with fail
          refine QTail.wp_region_quiet_tail 29 (by kernel_rfl) (by kernel_rfl) ?_
          simp only [List.take_succ_cons, List.take_zero, List.drop_succ_cons, List.drop_zero]
          repeat (go_big_quiet_step ((first | (go_at_call 22; exact Calls.quiet_of_same (HAT.out _)) | (go_at_call 21; exact Calls.quiet_of (HLE.out _)))))
          refine wpQuiet_nil ?_
          intro _ hw'
          obtain ⟨nq, hw''⟩ := hw'
          subst hw''
          have HS10 := Aside0.mk (HS9.out nq)
          clear cm cb m1 m2 HAT HLE HS9 q1 q2 q3 q4
          go_wp2_with fail
          clear cg fg
          go_roundw
          case rel => exact ⟨j + 1, np, HLT.out, by go_num, ⟨HS10.out⟩⟩
          case measure => have := HLT.out; simp [intOf]; omega
        · obtain rfl : a = E.l.length := by have := HAL.out; omega
          clear ha
          go_wp2_with fail
          obtain ⟨W2, hW2⟩ : ∃ W, (wr.setCell ⟨E.bd, 0, none⟩ (.int .i64 ((j : Int) + 1))).alloc (.cells #[.int .i64 0, .int .i64 mn, .int .u64 mo, .bool ok, .int .u8 er] 41) = W := ⟨_, rfl⟩
          rw [hW2] at HS1 HB1 ⊢
          clear hW2 HS cg fg cd fd cm cb m1 m2 h0 h1 h2 h3 h4 hbd
          refine HS1.out.r_byte_end.mono ?_
          rintro e w3 ⟨rfl, hs3, hk3⟩
          (try simp only [Exit.inBlock, Exit.then])
          exact ⟨rfl, hs3.kp, .inr ⟨E.l.length, 5, rfl, hs3.r.at_, hs3.r.le, j, HLT.out, hs3, by rw [HX.out]; unfold endOf; rw [if_pos rfl, if_neg (by omega)], by decide⟩⟩
      have k0 : (kd == 0) = false := beq_eq_false_iff_ne.mpr hkd
      clear hkd
      by_cases hkd : kd = 1
      · subst hkd
        obtain ⟨⟨v, k, e1⟩, hg⟩ : ∃ q, gu (E.l.drop a) = q := ⟨_, rfl⟩
        by_cases hz : e1 = 0 ∧ v ≤ mo
        · obtain ⟨n, hn, -, hn2, hv0, hv1⟩ := RfM.gu_len (HBY.out.drop a) (by rw [hg]; exact hz.1)
          rw [hg] at hn hv0 hv1
          dsimp only at hn hv0 hv1
          subst hn
          obtain ⟨hz, hz2⟩ := hz
          subst hz
          have HG := Aside0.mk hg
          have HZ2 := Aside0.mk hz2
          clear hg hz2 hn2 hv0 hv1
          go_wp2_with fail
          obtain ⟨W2, hW2⟩ : ∃ W, (wr.setCell ⟨E.bd, 0, none⟩ (.int .i64 ((j : Int) + 1))).alloc (.cells #[.int .i64 1, .int .i64 mn, .int .u64 mo, .bool ok, .int .u8 er] 41) = W := ⟨_, rfl⟩
          rw [hW2] at HS1 HB1 ⊢
          clear hW2 HS cg fg cd fd cm cb m1 m2 h0 h1 h2 h3 h4 hbd
          refine (HS1.out.r_uint mo v n HG.out HZ2.out).mono ?_
          rintro e w3 ⟨rfl, hs3, hk3⟩
          have HS3 := Aside0.mk hs3
          have HM := Aside0.mk (M.uint hs3.m hs3.r.base (RfM.rUint_ok HBY.out HLN.out HAL.out HG.out HZ2.out 30 (by decide)))
          have hx3 := hk3.blk HB1.out (fun z => HN.out.1 z)
          have bx2 := (blk_cell hx3 2).trans rfl
          simp only [List.getElem?_toArray, List.getElem?_cons_zero, List.getElem?_cons_succ] at bx2
          obtain ⟨-, -, -, -, -, cm, -, -, -, -, -⟩ := hs3.cells
          clear hs3 hk3 hx3 HG
          have q0 : (v == v) = true := by simp
          go_wp2_with fail
          refine HM.out.mono ?_
          rintro e w4 ⟨rfl, hm4, hb4, hk4⟩
          have HS4 := Aside0.mk (HS3.out.mstep hm4 hb4 hk4)
          clear hm4 hb4 hk4 cm HM
          have HS5 := Aside0.mk (HS4.out.setGood true)
          obtain ⟨cg, fg, -, -, -, -, -, -, -, -, -⟩ := HS4.out.cells
          go_wp2_with fail
          obtain ⟨W5, hW5⟩ : ∃ W, w4.setCell ⟨E.bg, 0, none⟩ (.bool true) = W := ⟨_, rfl⟩
          rw [hW5] at HS5 ⊢
          clear hW5 cg fg
          clear q0
          have HAT := Aside0.mk (fun m => (HS5.out.drewN m).r_at)
          have HLE := Aside0.mk (fun m => (HS5.out.drewN m).r_left)
          have HS9 := Aside0.mk (fun m => (HS5.out.drewN m).setGood true)
          obtain ⟨cg, fg, -, -, -, cm, cb, -, -, m1, m2⟩ := HS5.out.cells
          obtain ⟨np, hnp⟩ : ∃ np : Nat, a + n = np := ⟨_, rfl⟩
          rw [hnp] at HAT HLE HS9 m1
          have q1 : ((np : Int) == (np : Int)) = true := by simp
          have q2 : (((E.l.length : Int) - (np : Int)) == ((E.l.length : Int) - (np : Int))) = true := by simp
          have q3 : (np : Int) ≤ 2000 := by have := (HS9.out 0).r.le; have := HLL.out; omega
          have q4 : (E.l.length : Int) ≤ 2000 := by have := HLL.out; omega
          clear hnp
          go_wp2_with fail
          refine QTail.wp_region_quiet_tail 29 (by kernel_rfl) (by kernel_rfl) ?_
          simp only [List.take_succ_cons, List.take_zero, List.drop_succ_cons, List.drop_zero]
          repeat (go_big_quiet_step ((first | (go_at_call 22; exact Calls.quiet_of_same (HAT.out _)) | (go_at_call 21; exact Calls.quiet_of (HLE.out _)))))
          refine wpQuiet_nil ?_
          intro _ hw'
          obtain ⟨nq, hw''⟩ := hw'
          subst hw''
          have HS10 := Aside0.mk (HS9.out nq)
          clear cm cb m1 m2 HAT HLE HS9 q1 q2 q3 q4
          go_wp2_with fail
          clear cg fg
          go_roundw
          case rel => exact ⟨j + 1, np, HLT.out, by go_num, ⟨HS10.out⟩⟩
          case measure => have := HLT.out; simp [intOf]; omega
        · have HG := Aside0.mk hg
          have HZ := Aside0.mk (show e1 ≠ 0 ∨ mo < v from by first | omega | simpa using hz)
          clear hg hz
          go_wp2_with fail
          obtain ⟨W2, hW2⟩ : ∃ W, (wr.setCell ⟨E.bd, 0, none⟩ (.int .i64 ((j : Int) + 1))).alloc (.cells #[.int .i64 1, .int .i64 mn, .int .u64 mo, .bool ok, .int .u8 er] 41) = W := ⟨_, rfl⟩
          rw [hW2] at HS1 HB1 ⊢
          clear hW2 HS cg fg cd fd cm cb m1 m2 h0 h1 h2 h3 h4 hbd
          refine (HS1.out.r_uint_end mo v k e1 HG.out HZ.out).mono ?_
          rintro e w3 ⟨rfl, hs3, hk3⟩
          (try simp only [Exit.inBlock, Exit.then])
          exact ⟨rfl, hs3.kp, .inr ⟨a, _, rfl, hs3.r.at_, hs3.r.le, j, HLT.out, hs3, by rw [HX.out]; unfold endOf; simp only [HG.out]; simp; have := HZ.out; split <;> simp_all, by have := HZ.out; split <;> simp_all⟩⟩
      have k1 : (kd == 1) = false := beq_eq_false_iff_ne.mpr hkd
      clear hkd
      by_cases hkd : kd = 2
      · subst hkd
        obtain ⟨⟨v, k, e1⟩, hg⟩ : ∃ q, gu (E.l.drop a) = q := ⟨_, rfl⟩
        by_cases hz : e1 = 0 ∧ True
        · obtain ⟨n, hn, -, hn2, hv0, hv1⟩ := RfM.gu_len (HBY.out.drop a) (by rw [hg]; exact hz.1)
          rw [hg] at hn hv0 hv1
          dsimp only at hn hv0 hv1
          subst hn
          obtain ⟨hz, hz2⟩ := hz
          subst hz
          have HG := Aside0.mk hg
          have HZ2 := Aside0.mk hz2
          clear hg hz2 hn2 hv0 hv1
          go_wp2_with fail
          obtain ⟨W2, hW2⟩ : ∃ W, (wr.setCell ⟨E.bd, 0, none⟩ (.int .i64 ((j : Int) + 1))).alloc (.cells #[.int .i64 2, .int .i64 mn, .int .u64 mo, .bool ok, .int .u8 er] 41) = W := ⟨_, rfl⟩
          rw [hW2] at HS1 HB1 ⊢
          clear hW2 HS cg fg cd fd cm cb m1 m2 h0 h1 h2 h3 h4 hbd
          refine (HS1.out.r_int v n HG.out).mono ?_
          rintro e w3 ⟨rfl, hs3, hk3⟩
          have HS3 := Aside0.mk hs3
          have HM := Aside0.mk (M.int hs3.m hs3.r.base (RfM.rInt_ok HBY.out HLN.out HAL.out HG.out 30 (by decide)))
          have hx3 := hk3.blk HB1.out (fun z => HN.out.1 z)
          obtain ⟨-, -, -, -, -, cm, -, -, -, -, -⟩ := hs3.cells
          clear hs3 hk3 hx3 HG
          have q0 : (zagS v == zagS v) = true := by simp
          generalize zagS v = zv at *
          go_wp2_with fail
          refine HM.out.mono ?_
          rintro e w4 ⟨rfl, hm4, hb4, hk4⟩
          have HS4 := Aside0.mk (HS3.out.mstep hm4 hb4 hk4)
          clear hm4 hb4 hk4 cm HM
          have HS5 := Aside0.mk (HS4.out.setGood true)
          obtain ⟨cg, fg, -, -, -, -, -, -, -, -, -⟩ := HS4.out.cells
          go_wp2_with fail
          obtain ⟨W5, hW5⟩ : ∃ W, w4.setCell ⟨E.bg, 0, none⟩ (.bool true) = W := ⟨_, rfl⟩
          rw [hW5] at HS5 ⊢
          clear hW5 cg fg
          clear q0
          have HAT := Aside0.mk (fun m => (HS5.out.drewN m).r_at)
          have HLE := Aside0.mk (fun m => (HS5.out.drewN m).r_left)
          have HS9 := Aside0.mk (fun m => (HS5.out.drewN m).setGood true)
          obtain ⟨cg, fg, -, -, -, cm, cb, -, -, m1, m2⟩ := HS5.out.cells
          obtain ⟨np, hnp⟩ : ∃ np : Nat, a + n = np := ⟨_, rfl⟩
          rw [hnp] at HAT HLE HS9 m1
          have q1 : ((np : Int) == (np : Int)) = true := by simp
          have q2 : (((E.l.length : Int) - (np : Int)) == ((E.l.length : Int) - (np : Int))) = true := by simp
          have q3 : (np : Int) ≤ 2000 := by have := (HS9.out 0).r.le; have := HLL.out; omega
          have q4 : (E.l.length : Int) ≤ 2000 := by have := HLL.out; omega
          clear hnp
          go_wp2_with fail
          refine QTail.wp_region_quiet_tail 29 (by kernel_rfl) (by kernel_rfl) ?_
          simp only [List.take_succ_cons, List.take_zero, List.drop_succ_cons, List.drop_zero]
          repeat (go_big_quiet_step ((first | (go_at_call 22; exact Calls.quiet_of_same (HAT.out _)) | (go_at_call 21; exact Calls.quiet_of (HLE.out _)))))
          refine wpQuiet_nil ?_
          intro _ hw'
          obtain ⟨nq, hw''⟩ := hw'
          subst hw''
          have HS10 := Aside0.mk (HS9.out nq)
          clear cm cb m1 m2 HAT HLE HS9 q1 q2 q3 q4
          go_wp2_with fail
          clear cg fg
          go_roundw
          case rel => exact ⟨j + 1, np, HLT.out, by go_num, ⟨HS10.out⟩⟩
          case measure => have := HLT.out; simp [intOf]; omega
        · have HG := Aside0.mk hg
          have HZ := Aside0.mk (show e1 ≠ 0 from by first | omega | simpa using hz)
          clear hg hz
          go_wp2_with fail
          obtain ⟨W2, hW2⟩ : ∃ W, (wr.setCell ⟨E.bd, 0, none⟩ (.int .i64 ((j : Int) + 1))).alloc (.cells #[.int .i64 2, .int .i64 mn, .int .u64 mo, .bool ok, .int .u8 er] 41) = W := ⟨_, rfl⟩
          rw [hW2] at HS1 HB1 ⊢
          clear hW2 HS cg fg cd fd cm cb m1 m2 h0 h1 h2 h3 h4 hbd
          refine (HS1.out.r_int_end v k e1 HG.out HZ.out).mono ?_
          rintro e w3 ⟨rfl, hs3, hk3⟩
          (try simp only [Exit.inBlock, Exit.then])
          exact ⟨rfl, hs3.kp, .inr ⟨a, _, rfl, hs3.r.at_, hs3.r.le, j, HLT.out, hs3, by rw [HX.out]; unfold endOf; simp only [HG.out]; simp, HZ.out⟩⟩
      have k2 : (kd == 2) = false := beq_eq_false_iff_ne.mpr hkd
      clear hkd
      by_cases hkd : kd = 3
      · subst hkd
        obtain ⟨⟨p, k, e1⟩, hg⟩ : ∃ q, gb (E.l.drop a) mn = q := ⟨_, rfl⟩
        by_cases hz : e1 = 0
        · obtain ⟨n, hn, hn2, -⟩ := Frame.gb_ok (HBY.out.drop a) (by rw [hg]; exact hz)
          rw [hg] at hn
          rw [List.length_drop] at hn2
          dsimp only at hn
          subst hn
          subst hz
          have HG := Aside0.mk hg
          have HK := Aside0.mk (show a + n ≤ E.l.length by have := HAL.out; omega)
          clear hg hn2
          go_wp2_with fail
          obtain ⟨W2, hW2⟩ : ∃ W, (wr.setCell ⟨E.bd, 0, none⟩ (.int .i64 ((j : Int) + 1))).alloc (.cells #[.int .i64 3, .int .i64 mn, .int .u64 mo, .bool ok, .int .u8 er] 41) = W := ⟨_, rfl⟩
          rw [hW2] at HS1 HB1 ⊢
          clear hW2 HS cg fg cd fd cm cb m1 m2 h0 h1 h2 h3 h4 hbd
          refine (HS1.out.r_bytes mn HF.out.many p n HG.out HK.out).mono ?_
          rintro e w3 ⟨A2, c2, rfl, hc3, hs3, hk3⟩
          have HS3 := Aside0.mk hs3
          have HM := Aside0.mk (M.bytes hs3.m hs3.r.base (RfM.rBytes_ok HBY.out HLN.out HAL.out HF.out.many HG.out HK.out 30 (by decide)))
          have hx3 := hk3.blk HB1.out (fun z => HN.out.1 z)
          have bx1 := (blk_cell hx3 1).trans rfl
          simp only [List.getElem?_toArray, List.getElem?_cons_zero, List.getElem?_cons_succ] at bx1
          obtain ⟨-, -, -, -, -, cm, -, -, -, -, -⟩ := hs3.cells
          have hcv := Kd.C_string (P := Try.prog) (A := A2) (c := c2) Try.underlying22 Try.underlying5 Try.underlying9 hc3
          clear hs3 hk3 hx3 hc3 HG
          have q0 : ((strOfNums p).toList == (strOfNums p).toList) = true := by simp
          go_wp2_with fail
          clear hcv
          refine HM.out.mono ?_
          rintro e w4 ⟨A4, c4, rfl, hc4, hm4, hb4, hk4⟩
          have hcv := Kd.C_string (P := Try.prog) (A := A4) (c := c4) Try.underlying22 Try.underlying5 Try.underlying9 hc4
          clear hc4
          have HS4 := Aside0.mk (HS3.out.mstep hm4 hb4 hk4)
          clear hm4 hb4 hk4 cm HM
          have HS5 := Aside0.mk (HS4.out.setGood true)
          obtain ⟨cg, fg, -, -, -, -, -, -, -, -, -⟩ := HS4.out.cells
          go_wp2_with fail
          obtain ⟨W5, hW5⟩ : ∃ W, w4.setCell ⟨E.bg, 0, none⟩ (.bool true) = W := ⟨_, rfl⟩
          rw [hW5] at HS5 ⊢
          clear hW5 cg fg
          clear q0
          have HAT := Aside0.mk (fun m => (HS5.out.drewN m).r_at)
          have HLE := Aside0.mk (fun m => (HS5.out.drewN m).r_left)
          have HS9 := Aside0.mk (fun m => (HS5.out.drewN m).setGood true)
          obtain ⟨cg, fg, -, -, -, cm, cb, -, -, m1, m2⟩ := HS5.out.cells
          obtain ⟨np, hnp⟩ : ∃ np : Nat, a + n = np := ⟨_, rfl⟩
          rw [hnp] at HAT HLE HS9 m1
          have q1 : ((np : Int) == (np : Int)) = true := by simp
          have q2 : (((E.l.length : Int) - (np : Int)) == ((E.l.length : Int) - (np : Int))) = true := by simp
          have q3 : (np : Int) ≤ 2000 := by have := (HS9.out 0).r.le; have := HLL.out; omega
          have q4 : (E.l.length : Int) ≤ 2000 := by have := HLL.out; omega
          clear hnp
          go_wp2_with fail
          refine QTail.wp_region_quiet_tail 29 (by kernel_rfl) (by kernel_rfl) ?_
          simp only [List.take_succ_cons, List.take_zero, List.drop_succ_cons, List.drop_zero]
          repeat (go_big_quiet_step ((first | (go_at_call 22; exact Calls.quiet_of_same (HAT.out _)) | (go_at_call 21; exact Calls.quiet_of (HLE.out _)))))
          refine wpQuiet_nil ?_
          intro _ hw'
          obtain ⟨nq, hw''⟩ := hw'
          subst hw''
          have HS10 := Aside0.mk (HS9.out nq)
          clear cm cb m1 m2 HAT HLE HS9 q1 q2 q3 q4
          go_wp2_with fail
          clear cg fg
          go_roundw
          case rel => exact ⟨j + 1, np, HLT.out, by go_num, ⟨HS10.out⟩⟩
          case measure => have := HLT.out; simp [intOf]; omega
        · have HG := Aside0.mk hg
          have HZ := Aside0.mk hz
          clear hg hz
          go_wp2_with fail
          obtain ⟨W2, hW2⟩ : ∃ W, (wr.setCell ⟨E.bd, 0, none⟩ (.int .i64 ((j : Int) + 1))).alloc (.cells #[.int .i64 3, .int .i64 mn, .int .u64 mo, .bool ok, .int .u8 er] 41) = W := ⟨_, rfl⟩
          rw [hW2] at HS1 HB1 ⊢
          clear hW2 HS cg fg cd fd cm cb m1 m2 h0 h1 h2 h3 h4 hbd
          refine (HS1.out.r_bytes_end mn HF.out.many p k e1 HG.out HZ.out).mono ?_
          rintro e w3 ⟨rfl, hs3, hk3⟩
          (try simp only [Exit.inBlock, Exit.then])
          exact ⟨rfl, hs3.kp, .inr ⟨a, _, rfl, hs3.r.at_, hs3.r.le, j, HLT.out, hs3, by rw [HX.out]; unfold endOf; simp [HG.out], HZ.out⟩⟩
      have k3 : (kd == 3) = false := beq_eq_false_iff_ne.mpr hkd
      clear hkd
      by_cases hkd : kd = 4
      · subst hkd
        have he0 : 0 ≤ er := HF.out.err.1
        have he1 : er < 256 := HF.out.err.2
        by_cases hok : ok = true
        · subst hok
          go_wp2_with fail
          obtain ⟨W2, hW2⟩ : ∃ W, (wr.setCell ⟨E.bd, 0, none⟩ (.int .i64 ((j : Int) + 1))).alloc (.cells #[.int .i64 4, .int .i64 mn, .int .u64 mo, .bool true, .int .u8 er] 41) = W := ⟨_, rfl⟩
          rw [hW2] at HS1 HB1 ⊢
          clear hW2 HS cg fg cd fd cm cb m1 m2 h0 h1 h2 h3 h4 hbd
          refine (HS1.out.r_must true (er % 18) (.inl rfl)).mono ?_
          rintro e w3 ⟨rfl, hs3, hk3⟩
          have HS3 := Aside0.mk hs3
          have HM := Aside0.mk (M.must hs3.m hs3.r.base true (er % 18))
          rw [show (if true = true then (0 : Int) else er % 18) = 0 from if_pos rfl] at HM
          have hx3 := hk3.blk HB1.out (fun z => HN.out.1 z)
          have bx3 := (blk_cell hx3 3).trans rfl
          simp only [List.getElem?_toArray, List.getElem?_cons_zero, List.getElem?_cons_succ] at bx3
          have bx4 := (blk_cell hx3 4).trans rfl
          simp only [List.getElem?_toArray, List.getElem?_cons_zero, List.getElem?_cons_succ] at bx4
          obtain ⟨-, -, -, -, -, cm, -, -, -, -, -⟩ := hs3.cells
          clear hs3 hk3 hx3
          go_wp2_with fail
          refine HM.out.mono ?_
          rintro e w4 ⟨rfl, hm4, hb4, hk4⟩
          have HS5 := Aside0.mk (HS3.out.mstep hm4 hb4 hk4)
          clear hm4 hb4 hk4 cm HM
          have HAT := Aside0.mk (fun m => (HS5.out.drewN m).r_at)
          have HLE := Aside0.mk (fun m => (HS5.out.drewN m).r_left)
          have HS9 := Aside0.mk (fun m => (HS5.out.drewN m).setGood true)
          obtain ⟨cg, fg, -, -, -, cm, cb, -, -, m1, m2⟩ := HS5.out.cells
          obtain ⟨np, hnp⟩ : ∃ np : Nat, a = np := ⟨_, rfl⟩
          rw [hnp] at HAT HLE HS9 m1
          have q1 : ((np : Int) == (np : Int)) = true := by simp
          have q2 : (((E.l.length : Int) - (np : Int)) == ((E.l.length : Int) - (np : Int))) = true := by simp
          have q3 : (np : Int) ≤ 2000 := by have := (HS9.out 0).r.le; have := HLL.out; omega
          have q4 : (E.l.length : Int) ≤ 2000 := by have := HLL.out; omega
          clear hnp
          go_wp2_with fail
          refine QTail.wp_region_quiet_tail 29 (by kernel_rfl) (by kernel_rfl) ?_
          simp only [List.take_succ_cons, List.take_zero, List.drop_succ_cons, List.drop_zero]
          repeat (go_big_quiet_step ((first | (go_at_call 22; exact Calls.quiet_of_same (HAT.out _)) | (go_at_call 21; exact Calls.quiet_of (HLE.out _)))))
          refine wpQuiet_nil ?_
          intro _ hw'
          obtain ⟨nq, hw''⟩ := hw'
          subst hw''
          have HS10 := Aside0.mk (HS9.out nq)
          clear cm cb m1 m2 HAT HLE HS9 q1 q2 q3 q4
          go_wp2_with fail
          clear cg fg
          go_roundw
          case rel => exact ⟨j + 1, np, HLT.out, by go_num, ⟨HS10.out⟩⟩
          case measure => have := HLT.out; simp [intOf]; omega
        · obtain rfl : ok = false := by simpa using hok
          by_cases hz : er % 18 = 0
          · have HZ := Aside0.mk hz
            clear hz
            go_wp2_with fail
            obtain ⟨W2, hW2⟩ : ∃ W, (wr.setCell ⟨E.bd, 0, none⟩ (.int .i64 ((j : Int) + 1))).alloc (.cells #[.int .i64 4, .int .i64 mn, .int .u64 mo, .bool false, .int .u8 er] 41) = W := ⟨_, rfl⟩
            rw [hW2] at HS1 HB1 ⊢
            clear hW2 HS cg fg cd fd cm cb m1 m2 h0 h1 h2 h3 h4 hbd
            refine (HS1.out.r_must false (er % 18) (.inr HZ.out)).mono ?_
            rintro e w3 ⟨rfl, hs3, hk3⟩
            have HS3 := Aside0.mk hs3
            have HM := Aside0.mk (M.must hs3.m hs3.r.base false (er % 18))
            rw [show (if false = true then (0 : Int) else er % 18) = 0 from (if_neg (by decide)).trans HZ.out] at HM
            have hx3 := hk3.blk HB1.out (fun z => HN.out.1 z)
            have bx3 := (blk_cell hx3 3).trans rfl
            simp only [List.getElem?_toArray, List.getElem?_cons_zero, List.getElem?_cons_succ] at bx3
            have bx4 := (blk_cell hx3 4).trans rfl
            simp only [List.getElem?_toArray, List.getElem?_cons_zero, List.getElem?_cons_succ] at bx4
            obtain ⟨-, -, -, -, -, cm, -, -, -, -, -⟩ := hs3.cells
            clear hs3 hk3 hx3
            go_wp2_with fail
            refine HM.out.mono ?_
            rintro e w4 ⟨rfl, hm4, hb4, hk4⟩
            have HS5 := Aside0.mk (HS3.out.mstep hm4 hb4 hk4)
            clear hm4 hb4 hk4 cm HM
            have HAT := Aside0.mk (fun m => (HS5.out.drewN m).r_at)
            have HLE := Aside0.mk (fun m => (HS5.out.drewN m).r_left)
            have HS9 := Aside0.mk (fun m => (HS5.out.drewN m).setGood true)
            obtain ⟨cg, fg, -, -, -, cm, cb, -, -, m1, m2⟩ := HS5.out.cells
            obtain ⟨np, hnp⟩ : ∃ np : Nat, a = np := ⟨_, rfl⟩
            rw [hnp] at HAT HLE HS9 m1
            have q1 : ((np : Int) == (np : Int)) = true := by simp
            have q2 : (((E.l.length : Int) - (np : Int)) == ((E.l.length : Int) - (np : Int))) = true := by simp
            have q3 : (np : Int) ≤ 2000 := by have := (HS9.out 0).r.le; have := HLL.out; omega
            have q4 : (E.l.length : Int) ≤ 2000 := by have := HLL.out; omega
            clear hnp
            go_wp2_with fail
            refine QTail.wp_region_quiet_tail 29 (by kernel_rfl) (by kernel_rfl) ?_
            simp only [List.take_succ_cons, List.take_zero, List.drop_succ_cons, List.drop_zero]
            repeat (go_big_quiet_step ((first | (go_at_call 22; exact Calls.quiet_of_same (HAT.out _)) | (go_at_call 21; exact Calls.quiet_of (HLE.out _)))))
            refine wpQuiet_nil ?_
            intro _ hw'
            obtain ⟨nq, hw''⟩ := hw'
            subst hw''
            have HS10 := Aside0.mk (HS9.out nq)
            clear cm cb m1 m2 HAT HLE HS9 q1 q2 q3 q4
            go_wp2_with fail
            clear cg fg
            go_roundw
            case rel => exact ⟨j + 1, np, HLT.out, by go_num, ⟨HS10.out⟩⟩
            case measure => have := HLT.out; simp [intOf]; omega
          · have HZ := Aside0.mk hz
            clear hz
            go_wp2_with fail
            obtain ⟨W2, hW2⟩ : ∃ W, (wr.setCell ⟨E.bd, 0, none⟩ (.int .i64 ((j : Int) + 1))).alloc (.cells #[.int .i64 4, .int .i64 mn, .int .u64 mo, .bool false, .int .u8 er] 41) = W := ⟨_, rfl⟩
            rw [hW2] at HS1 HB1 ⊢
            clear hW2 HS cg fg cd fd cm cb m1 m2 h0 h1 h2 h3 h4 hbd
            refine (HS1.out.r_must_end (er % 18) HZ.out).mono ?_
            rintro e w3 ⟨rfl, hs3, hk3⟩
            (try simp only [Exit.inBlock, Exit.then])
            exact ⟨rfl, hs3.kp, .inr ⟨a, _, rfl, hs3.r.at_, hs3.r.le, j, HLT.out, hs3, by rw [HX.out]; unfold endOf; simp, HZ.out⟩⟩
      have k4 : (kd == 4) = false := beq_eq_false_iff_ne.mpr hkd
      clear hkd
      go_wp2_with fail
      obtain ⟨W2, hW2⟩ : ∃ W, (wr.setCell ⟨E.bd, 0, none⟩ (.int .i64 ((j : Int) + 1))).alloc (.cells #[.int .i64 kd, .int .i64 mn, .int .u64 mo, .bool ok, .int .u8 er] 41) = W := ⟨_, rfl⟩
      rw [hW2] at HS1 HB1 ⊢
      clear hW2 HS cg fg cd fd cm cb m1 m2 h0 h1 h2 h3 h4 hbd k0 k1 k2 k3 k4
      have HAT := Aside0.mk (fun m => (HS1.out.drewN m).r_at)
      have HLE := Aside0.mk (fun m => (HS1.out.drewN m).r_left)
      have HS9 := Aside0.mk (fun m => (HS1.out.drewN m).setGood true)
      obtain ⟨cg, fg, -, -, -, cm, cb, -, -, m1, m2⟩ := HS1.out.cells
      obtain ⟨np, hnp⟩ : ∃ np : Nat, a = np := ⟨_, rfl⟩
      rw [hnp] at HAT HLE HS9 m1
      have q1 : ((np : Int) == (np : Int)) = true := by simp
      have q2 : (((E.l.length : Int) - (np : Int)) == ((E.l.length : Int) - (np : Int))) = true := by simp
      have q3 : (np : Int) ≤ 2000 := by have := (HS9.out 0).r.le; have := HLL.out; omega
      have q4 : (E.l.length : Int) ≤ 2000 := by have := HLL.out; omega
      clear hnp
      go_wp2_with fail
      refine QTail.wp_region_quiet_tail 29 (by kernel_rfl) (by kernel_rfl) ?_
      simp only [List.take_succ_cons, List.take_zero, List.drop_succ_cons, List.drop_zero]
      repeat (go_big_quiet_step ((first | (go_at_call 22; exact Calls.quiet_of_same (HAT.out _)) | (go_at_call 21; exact Calls.quiet_of (HLE.out _)))))
      refine wpQuiet_nil ?_
      intro _ hw'
      obtain ⟨nq, hw''⟩ := hw'
      subst hw''
      have HS10 := Aside0.mk (HS9.out nq)
      clear cm cb m1 m2 HAT HLE HS9 q1 q2 q3 q4
      go_wp2_with fail
      clear cg fg
      go_roundw
      case rel => exact ⟨j + 1, np, HLT.out, by go_num, ⟨HS10.out⟩⟩
      case measure => have := HLT.out; simp [intOf]; omega
    · have u1 : decide ((j : Int) < (E.n1 : Int)) = false := decide_eq_false (by omega)
      have u2 : decide (j < E.n1) = false := decide_eq_false hlt
      obtain rfl : j = E.n1 := by omega
      have HS5 := Aside0.mk (HS.out.setOver true)
      obtain ⟨-, -, -, -, -, -, -, co, fo, -, -⟩ := HS.out.cells
      go_wp2
      go_end0
      exact ⟨HS5.out.kp, .inl ⟨rfl, a, HS5.out.r.at_, HS5.out.r.le, HS5.out⟩⟩
end Go.Proofs.Ytamnnaadnjkdiaa.Rd
