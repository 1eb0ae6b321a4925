-- WRITTEN by a program of this session's own (wip/gen/mkprint.py), over the kit's print: not printed by print.sh itself
import Derived.Test.YtmoopdhnnpjcfaaDoorPCoya
namespace Go.Proofs.YtmoopdhnnpjcfaaDoor.PCo
open Go.RowKit Go.Proofs.YtmoopdhnnpjcfaaDoorW.PrintWords Go.Proofs.YtmoopdhnnpjcfaaDoorW.PrintLast Go.Proofs.YtmoopdhnnpjcfaaDoorW.PrintMore
attribute [local go_sem] max2_int min2_int max_two min_two max_three min_three max_four min_four   -- for this text's walks alone
set_option linter.unusedVariables false
set_option linter.unusedSimpArgs false

attribute [local go_sem high] eqA47
/-! ### deckleref09_one: function 121 -/
mutual
def deckleref09_one.j0 : Nat → Int → Int → Bool → List Int → Int → Int → Int → ByteArray → Option (Int × ByteArray × Int × Int)
  | 0, _, _, _, _, _, _, _, _ => none
  | k + 1, x1, x2, x17, x1000, x1001, x1002, x124000, x124001 => if x17 = true then ((deckleref03_Reader_Uint.f k x1000 x1001 x1002 (IntKind.u64.wrap ((x124001.size : Int)))).bind fun bt125 => ((deckleref03_Reader_Bytes.f k x1000 bt125.2.1 bt125.2.2 (wrap64 (256 - (wrap64 (bt125.1))))).bind fun bt128 => (if 0 ≤ (wrap64 (bt125.1)) then (if (wrap64 (bt125.1)) ≤ (x124001.size : Int) then (if (x124001.extract 0 ((wrap64 (bt125.1)) : Int).toNat).size + (strOfNums bt128.1).size ≤ 9223372036854775807 then ((deckleref09_Shared.f k x124001 ((x124001.extract 0 ((wrap64 (bt125.1)) : Int).toNat) ++ (strOfNums bt128.1))).bind fun t134 => ((deckleref03_Reader_Must.f x1000 bt128.2.1 bt128.2.2 (t134 == (wrap64 (bt125.1))) 6).bind fun bt135 => (if x1 = 3 then ((deckleref03_Reader_Must.f x1000 bt135.1 bt135.2 true 11).bind fun bt137 => (some (0, (x124001.extract 0 ((wrap64 (bt125.1)) : Int).toNat) ++ (strOfNums bt128.1), bt137.1, bt137.2))) else ((deckleref04_UTF8.f k ((x124001.extract 0 ((wrap64 (bt125.1)) : Int).toNat) ++ (strOfNums bt128.1))).bind fun t139 => ((deckleref03_Reader_Must.f x1000 bt135.1 bt135.2 t139 11).bind fun bt140 => (some (0, (x124001.extract 0 ((wrap64 (bt125.1)) : Int).toNat) ++ (strOfNums bt128.1), bt140.1, bt140.2))))))) else (none)) else (none)) else (none)))) else (if x2 = 0 then (deckleref09_one.j1 k (x1 != 0) x1000 x1001 x1002 x124000 x124001) else (deckleref09_one.j1 k false x1000 x1001 x1002 x124000 x124001))
def deckleref09_one.j1 : Nat → Bool → List Int → Int → Int → Int → ByteArray → Option (Int × ByteArray × Int × Int)
  | 0, _, _, _, _, _, _ => none
  | k + 1, x61, x1000, x1001, x1002, x124000, x124001 => if x61 = true then ((deckleref03_Reader_Uint.f k x1000 x1001 x1002 18446744073709551615).bind fun bt142 => (some (bt142.1, (⟨#[]⟩ : ByteArray), bt142.2.1, bt142.2.2))) else ((deckleref03_Reader_Int.f k x1000 x1001 x1002).bind fun bt145 => (some (IntKind.u64.wrap (x124000 + (IntKind.u64.wrap (bt145.1))), (⟨#[]⟩ : ByteArray), bt145.2.1, bt145.2.2)))
end
def deckleref09_one.f (k : Nat) (s0_0 : List Int) (s0_1 : Int) (s0_2 : Int) (a1 : Int) (a2 : Int) (a3_0 : Int) (a3_1 : ByteArray) : Option (Int × ByteArray × Int × Int) := if a1 = 3 then (deckleref09_one.j0 k a1 a2 true s0_0 s0_1 s0_2 a3_0 a3_1) else (deckleref09_one.j0 k a1 a2 (a1 == 4) s0_0 s0_1 s0_2 a3_0 a3_1)
theorem deckleref09_one.mono_l : ∀ k, (∀ y0 y1 y2 y3 y4 y5 y6 y7, LeO (deckleref09_one.j0 k y0 y1 y2 y3 y4 y5 y6 y7) (deckleref09_one.j0 (k + 1) y0 y1 y2 y3 y4 y5 y6 y7)) ∧ (∀ y0 y1 y2 y3 y4 y5, LeO (deckleref09_one.j1 k y0 y1 y2 y3 y4 y5) (deckleref09_one.j1 (k + 1) y0 y1 y2 y3 y4 y5))
  | 0 => ⟨fun _ _ _ _ _ _ _ _ r h => by simp [deckleref09_one.j0] at h, fun _ _ _ _ _ _ r h => by simp [deckleref09_one.j1] at h⟩
  | k + 1 => by
    obtain ⟨ih0, ih1⟩ := deckleref09_one.mono_l k
    refine ⟨?_, ?_⟩
    · intro y0 y1 y2 y3 y4 y5 y6 y7
      unfold deckleref09_one.j0
      repeat' first
      | (with_reducible exact ih0 _ _ _ _ _ _ _ _)
      | (with_reducible exact ih1 _ _ _ _ _ _)
      | (with_reducible exact deckleref03_Reader_Bytes.mono _ _ _ _ _)
      | (with_reducible exact deckleref03_Reader_Int.mono _ _ _ _)
      | (with_reducible exact deckleref03_Reader_Uint.mono _ _ _ _ _)
      | (with_reducible exact deckleref04_UTF8.mono _ _)
      | (with_reducible exact deckleref09_Shared.mono _ _ _)
      | (with_reducible exact LeO.refl _)
      | (with_reducible exact LeO.none _)
      | (with_reducible refine LeO.ite ?_ ?_)
      | (with_reducible refine LeO.bind ?_ (fun _ => ?_))
      | exact ih0 _ _ _ _ _ _ _ _
      | exact ih1 _ _ _ _ _ _
      | exact deckleref03_Reader_Bytes.mono _ _ _ _ _
      | exact deckleref03_Reader_Int.mono _ _ _ _
      | exact deckleref03_Reader_Uint.mono _ _ _ _ _
      | exact deckleref04_UTF8.mono _ _
      | exact deckleref09_Shared.mono _ _ _
      | exact LeO.none _
      | refine LeO.ite ?_ ?_
      | refine LeO.bind ?_ (fun _ => ?_)
    · intro y0 y1 y2 y3 y4 y5
      unfold deckleref09_one.j1
      repeat' first
      | (with_reducible exact ih0 _ _ _ _ _ _ _ _)
      | (with_reducible exact ih1 _ _ _ _ _ _)
      | (with_reducible exact deckleref03_Reader_Bytes.mono _ _ _ _ _)
      | (with_reducible exact deckleref03_Reader_Int.mono _ _ _ _)
      | (with_reducible exact deckleref03_Reader_Uint.mono _ _ _ _ _)
      | (with_reducible exact deckleref04_UTF8.mono _ _)
      | (with_reducible exact deckleref09_Shared.mono _ _ _)
      | (with_reducible exact LeO.refl _)
      | (with_reducible exact LeO.none _)
      | (with_reducible refine LeO.ite ?_ ?_)
      | (with_reducible refine LeO.bind ?_ (fun _ => ?_))
      | exact ih0 _ _ _ _ _ _ _ _
      | exact ih1 _ _ _ _ _ _
      | exact deckleref03_Reader_Bytes.mono _ _ _ _ _
      | exact deckleref03_Reader_Int.mono _ _ _ _
      | exact deckleref03_Reader_Uint.mono _ _ _ _ _
      | exact deckleref04_UTF8.mono _ _
      | exact deckleref09_Shared.mono _ _ _
      | exact LeO.none _
      | refine LeO.ite ?_ ?_
      | refine LeO.bind ?_ (fun _ => ?_)
theorem deckleref09_one.mono : ∀ a0 a1 a2 a3 a4 a5 a6 k, LeO (deckleref09_one.f k a0 a1 a2 a3 a4 a5 a6) (deckleref09_one.f (k + 1) a0 a1 a2 a3 a4 a5 a6) := by
  intro a0 a1 a2 a3 a4 a5 a6 k
  obtain ⟨ih0, ih1⟩ := deckleref09_one.mono_l k
  unfold deckleref09_one.f
  repeat' first
      | (with_reducible exact ih0 _ _ _ _ _ _ _ _)
      | (with_reducible exact ih1 _ _ _ _ _ _)
      | (with_reducible exact deckleref03_Reader_Bytes.mono _ _ _ _ _)
      | (with_reducible exact deckleref03_Reader_Int.mono _ _ _ _)
      | (with_reducible exact deckleref03_Reader_Uint.mono _ _ _ _ _)
      | (with_reducible exact deckleref04_UTF8.mono _ _)
      | (with_reducible exact deckleref09_Shared.mono _ _ _)
      | (with_reducible exact LeO.refl _)
      | (with_reducible exact LeO.none _)
      | (with_reducible refine LeO.ite ?_ ?_)
      | (with_reducible refine LeO.bind ?_ (fun _ => ?_))
      | exact ih0 _ _ _ _ _ _ _ _
      | exact ih1 _ _ _ _ _ _
      | exact deckleref03_Reader_Bytes.mono _ _ _ _ _
      | exact deckleref03_Reader_Int.mono _ _ _ _
      | exact deckleref03_Reader_Uint.mono _ _ _ _ _
      | exact deckleref04_UTF8.mono _ _
      | exact deckleref09_Shared.mono _ _ _
      | exact LeO.none _
      | refine LeO.ite ?_ ?_
      | refine LeO.bind ?_ (fun _ => ?_)
def deckleref09_one.T10 : Bool × List (List Nat × List Nat) := (true, [([], []), ([0], [0]), ([], []), ([2], [2]), ([3], [3]), ([1, 4], [1, 4]), ([5], [5]), ([6, 3, 0, 1, 2, 3, 4, 5, 6], [6])])
def deckleref09_one.B10 : List Nat := [0, 1, 0, 4, 12, 31, 63, 127]
theorem deckleref09_one.tab10 : rtab .any (opsOf Tryd.f121 10) = deckleref09_one.T10 := by kernel_rfl
theorem deckleref09_one.bits10 : waitsOk deckleref09_one.T10.2 deckleref09_one.B10 = true := by kernel_rfl
set_option maxHeartbeats 8000000 in
set_option maxRecDepth 100000 in
theorem deckleref09_one.calls (k : Nat) (g : Nat) (s0_0 : List Int) (s0_1 : Int) (s0_2 : Int) (a1 : Int) (a2 : Int) (a3_0 : Int) (a3_1 : ByteArray) (r1 : Int) (r2 : ByteArray) (r3 : Int) (r4 : Int) (w0 w : World) (hI : IsS115 w0 w g s0_0 s0_1 s0_2) (hB : Below w0.heap.size w0 w) (h : deckleref09_one.f k s0_0 s0_1 s0_2 a1 a2 a3_0 a3_1 = some (r1, r2, r3, r4)) :
    Calls Tryd.prog 121 #[.pointer (some ⟨g, 0, none⟩), .int .i64 a1, .int .i64 a2, .agg #[.int .u64 a3_0, .string a3_1]] w fun e w' => e = .returned (.agg #[.int .u64 r1, .string r2]) ∧ IsS115 w0 w' g s0_0 r3 r4 ∧ Below w0.heap.size w0 w' ∧ KeepBut w w' g none := by
  have hu47 := Tryd.underlying47
  have HI0 := Aside0.mk hI
  have HK := Aside0.mk (KeepBut.refl w g none)
  have HL := Aside0.mk hB.size
  clear hI
  have HW0 := Aside0.mk hB.size
  have HB := Aside0.mk hB
  clear hB
  have H : (if a1 = 3 then (deckleref09_one.j0 k a1 a2 true s0_0 s0_1 s0_2 a3_0 a3_1) else (deckleref09_one.j0 k a1 a2 (a1 == 4) s0_0 s0_1 s0_2 a3_0 a3_1)) = some (r1, r2, r3, r4) := h
  clear h
  have HC5 := Aside0.mk H
  clear H
  go_enter Tryd.func121, Tryd.ntmps121
  go_upto_region 1 with (first | ((with_reducible refine gate_dst (N := 7) rfl ?_); refine box_event ?hg (N := 7) ?hd (cs := #[.int .u64 a3_0, .string a3_1]) (t := 47) ?hr ?_; (case hd => rfl); (case hg => rfl); (case hr => first | (go_simp; done) | (go_simp; rfl)); intro gb123 hg w6 hbox hb; have n0_ := Aside0.mk (IsS115.below (by repeat (first | (with_reducible first | exact HI0.out | apply IsS115.alloc | apply IsS115.drewN | apply IsS115.drew | apply IsS115.set_1 | apply IsS115.set_2) | exact HI0.out)) hb); have n1_ := Aside0.mk (KeepBut.trans (by repeat (first | (with_reducible first | exact HK.out | apply KeepBut.set_ | apply keep_drewN | apply keep_drew | apply keep_alloc) | exact HK.out)) (KeepBut.of_below hb g none) (.inl rfl)); have n2_ := Aside0.mk (below_step (by repeat (first | (with_reducible first | exact HB.out | apply below_alloc | apply pw_below_drewN | apply below_drew1 | refine below_set ?_ (IsS115.ge HI0.out)) | exact HB.out)) hb); have n3_ := Aside0.mk (hbox); have n4_ := Aside0.mk ((by rw [hg]; exact (keep_size (w := w) (g := g) (row := none) (by repeat (first | (with_reducible first | exact HK.out | apply KeepBut.set_ | apply keep_drewN | apply keep_drew | apply keep_alloc) | exact HK.out))) : w.heap.size ≤ gb123)); have n5_ := Aside0.mk ((Nat.le_trans HW0.out (by rw [hg]; exact (keep_size (w := w) (g := g) (row := none) (by repeat (first | (with_reducible first | exact HK.out | apply KeepBut.set_ | apply keep_drewN | apply keep_drew | apply keep_alloc) | exact HK.out))) : w.heap.size ≤ gb123) : w0.heap.size ≤ gb123)); have n6_ := Aside0.mk ((by rw [hg]; exact Nat.ne_of_lt (IsS115.lt (show IsS115 w0 _ g s0_0 s0_1 s0_2 from by repeat (first | (with_reducible first | exact HI0.out | apply IsS115.alloc | apply IsS115.drewN | apply IsS115.drew | apply IsS115.set_1 | apply IsS115.set_2) | exact HI0.out))) : g ≠ gb123)); have n7_ := Aside0.mk ((by rw [hg]; exact Nat.ne_of_gt (IsS115.lt (show IsS115 w0 _ g s0_0 s0_1 s0_2 from by repeat (first | (with_reducible first | exact HI0.out | apply IsS115.alloc | apply IsS115.drewN | apply IsS115.drew | apply IsS115.set_1 | apply IsS115.set_2) | exact HI0.out))) : gb123 ≠ g)); clear HI0; clear HK; clear HB; have HI0 := n0_; have HK := n1_; have HB := n2_; have BK123 := n3_; have GW123 := n4_; have GE123 := n5_; have NB0_123 := n6_; have NB123_0 := n7_; clear n0_ n1_ n2_ n3_ n4_ n5_ n6_ n7_; clear hb hbox hg) | ((with_reducible refine gate_dst (N := 8) rfl ?_); refine box_event ?hg (N := 8) ?hd (cs := #[.int .u64 0, .string (⟨#[]⟩ : ByteArray)]) (t := 47) ?hr ?_; (case hd => rfl); (case hg => rfl); (case hr => first | (go_simp; done) | (go_simp; rfl)); intro gb124 hg w7 hbox hb; have n0_ := Aside0.mk (IsS115.below (by repeat (first | (with_reducible first | exact HI0.out | apply IsS115.alloc | apply IsS115.drewN | apply IsS115.drew | apply IsS115.set_1 | apply IsS115.set_2 | refine IsS115.far ?_ NB0_123.out _) | exact HI0.out)) hb); have n1_ := Aside0.mk (blk_below (g := gb123) (o := .cells #[.int .u64 a3_0, .string a3_1] 47 (0, 0)) (by (with_reducible repeat (first | refine blk_drewN ?_ _ | refine blk_drew ?_ | refine blk_alloc ?_ _)); exact BK123.out) hb); have n2_ := Aside0.mk (KeepBut.trans (by repeat (first | (with_reducible first | exact HK.out | apply KeepBut.set_ | apply keep_drewN | apply keep_drew | apply keep_alloc | refine keep_far ?_ GW123.out _) | exact HK.out)) (KeepBut.of_below hb g none) (.inl rfl)); have n3_ := Aside0.mk (below_step (by repeat (first | (with_reducible first | exact HB.out | apply below_alloc | apply pw_below_drewN | apply below_drew1 | refine below_set ?_ (IsS115.ge HI0.out) | refine below_set ?_ GE123.out) | exact HB.out)) hb); have n4_ := Aside0.mk (hbox); have n5_ := Aside0.mk ((by rw [hg]; exact (keep_size (w := w) (g := g) (row := none) (by repeat (first | (with_reducible first | exact HK.out | apply KeepBut.set_ | apply keep_drewN | apply keep_drew | apply keep_alloc | refine keep_far ?_ GW123.out _) | exact HK.out))) : w.heap.size ≤ gb124)); have n6_ := Aside0.mk ((Nat.le_trans HW0.out (by rw [hg]; exact (keep_size (w := w) (g := g) (row := none) (by repeat (first | (with_reducible first | exact HK.out | apply KeepBut.set_ | apply keep_drewN | apply keep_drew | apply keep_alloc | refine keep_far ?_ GW123.out _) | exact HK.out))) : w.heap.size ≤ gb124) : w0.heap.size ≤ gb124)); have n7_ := Aside0.mk ((by rw [hg]; exact Nat.ne_of_lt (blk_lt (g := gb123) (o := .cells #[.int .u64 a3_0, .string a3_1] 47 (0, 0)) (by (with_reducible repeat (first | refine blk_drewN ?_ _ | refine blk_drew ?_ | refine blk_alloc ?_ _)); exact BK123.out)) : gb123 ≠ gb124)); have n8_ := Aside0.mk ((by rw [hg]; exact Nat.ne_of_gt (blk_lt (g := gb123) (o := .cells #[.int .u64 a3_0, .string a3_1] 47 (0, 0)) (by (with_reducible repeat (first | refine blk_drewN ?_ _ | refine blk_drew ?_ | refine blk_alloc ?_ _)); exact BK123.out)) : gb124 ≠ gb123)); have n9_ := Aside0.mk ((by rw [hg]; exact Nat.ne_of_lt (IsS115.lt (show IsS115 w0 _ g s0_0 s0_1 s0_2 from by repeat (first | (with_reducible first | exact HI0.out | apply IsS115.alloc | apply IsS115.drewN | apply IsS115.drew | apply IsS115.set_1 | apply IsS115.set_2 | refine IsS115.far ?_ NB0_123.out _) | exact HI0.out))) : g ≠ gb124)); have n10_ := Aside0.mk ((by rw [hg]; exact Nat.ne_of_gt (IsS115.lt (show IsS115 w0 _ g s0_0 s0_1 s0_2 from by repeat (first | (with_reducible first | exact HI0.out | apply IsS115.alloc | apply IsS115.drewN | apply IsS115.drew | apply IsS115.set_1 | apply IsS115.set_2 | refine IsS115.far ?_ NB0_123.out _) | exact HI0.out))) : gb124 ≠ g)); clear HI0; clear BK123; clear HK; clear HB; have HI0 := n0_; have BK123 := n1_; have HK := n2_; have HB := n3_; have BK124 := n4_; have GW124 := n5_; have GE124 := n6_; have NB123_124 := n7_; have NB124_123 := n8_; have NB0_124 := n9_; have NB124_0 := n10_; clear n0_ n1_ n2_ n3_ n4_ n5_ n6_ n7_ n8_ n9_ n10_; clear hb hbox hg))
  (try simp only [Act.put, List.setIfInBounds_toArray, List.set_cons_zero, List.set_cons_succ])
  go_cut [17] (fun v17 wc => ∃ (kq : Nat) (x17_4 : Bool), v17 = .bool x17_4 ∧ Aside0 (deckleref09_one.j0 kq a1 a2 x17_4 s0_0 s0_1 s0_2 a3_0 a3_1 = some (r1, r2, r3, r4)) ∧ Aside0 (kq ≤ k) ∧ Aside0 (wc.heap[gb123]? = some (.cells #[.int .u64 a3_0, .string a3_1] 47 (0, 0))) ∧ Aside0 (wc.heap[gb124]? = some (.cells #[.int .u64 0, .string (⟨#[]⟩ : ByteArray)] 47 (0, 0))) ∧ Aside0 (IsS115 w0 wc g s0_0 s0_1 s0_2) ∧ Aside0 (KeepBut w wc g none) ∧ Aside0 (Below w0.heap.size w0 wc))
  case first =>
    have H := HC5.out
    clear HC5
    by_cases c8 : a1 = 3
    · rw [if_pos c8] at H
      have c8b0 : (a1 == 3) = true := beq_iff_eq.mpr c8
      have c8b1 : (a1 != 3) = false := bne_eq_false_iff_eq.mpr c8
      clear c8
      (first | rw [c8b0] | (simp only [i64_w, i32_w]; rw [c8b0]) | skip)
      have H' := Aside0.mk H
      clear H
      go_wp2
      go_meet
      case rel => exact ⟨_, (true), (by first | rfl | (simp; done) | (simp [*]; done)), H', ⟨by first | omega | exact Nat.le_refl _⟩, ⟨by (with_reducible repeat (first | refine blk_drewN ?_ _ | refine blk_drew ?_ | refine blk_alloc ?_ _)); exact BK123.out⟩, ⟨by (with_reducible repeat (first | refine blk_drewN ?_ _ | refine blk_drew ?_ | refine blk_alloc ?_ _)); exact BK124.out⟩, ⟨by repeat (first | (with_reducible first | exact HI0.out | apply IsS115.alloc | apply IsS115.drewN | apply IsS115.drew | apply IsS115.set_1 | apply IsS115.set_2 | refine IsS115.far ?_ NB0_123.out _ | refine IsS115.far ?_ NB0_124.out _) | exact HI0.out)⟩, ⟨by repeat (first | (with_reducible first | exact HK.out | apply KeepBut.set_ | apply keep_drewN | apply keep_drew | apply keep_alloc | refine keep_far ?_ GW123.out _ | refine keep_far ?_ GW124.out _) | exact HK.out)⟩, ⟨by repeat (first | (with_reducible first | exact HB.out | apply below_alloc | apply pw_below_drewN | apply below_drew1 | refine below_set ?_ (IsS115.ge HI0.out) | refine below_set ?_ GE123.out | refine below_set ?_ GE124.out) | exact HB.out)⟩⟩
    · rw [if_neg c8] at H
      have c8b0 : (a1 == 3) = false := beq_eq_false_iff_ne.mpr c8
      have c8b1 : (a1 != 3) = true := bne_iff_ne.mpr c8
      (first | rw [c8b0] | (simp only [i64_w, i32_w]; rw [c8b0]) | skip)
      have H' := Aside0.mk H
      clear H
      go_wp2
      go_meet
      case rel => exact ⟨_, ((a1 == 4)), (by first | rfl | (simp; done) | (simp [*]; done)), H', ⟨by first | omega | exact Nat.le_refl _⟩, ⟨by (with_reducible repeat (first | refine blk_drewN ?_ _ | refine blk_drew ?_ | refine blk_alloc ?_ _)); exact BK123.out⟩, ⟨by (with_reducible repeat (first | refine blk_drewN ?_ _ | refine blk_drew ?_ | refine blk_alloc ?_ _)); exact BK124.out⟩, ⟨by repeat (first | (with_reducible first | exact HI0.out | apply IsS115.alloc | apply IsS115.drewN | apply IsS115.drew | apply IsS115.set_1 | apply IsS115.set_2 | refine IsS115.far ?_ NB0_123.out _ | refine IsS115.far ?_ NB0_124.out _) | exact HI0.out)⟩, ⟨by repeat (first | (with_reducible first | exact HK.out | apply KeepBut.set_ | apply keep_drewN | apply keep_drew | apply keep_alloc | refine keep_far ?_ GW123.out _ | refine keep_far ?_ GW124.out _) | exact HK.out)⟩, ⟨by repeat (first | (with_reducible first | exact HB.out | apply below_alloc | apply pw_below_drewN | apply below_drew1 | refine below_set ?_ (IsS115.ge HI0.out) | refine below_set ?_ GE123.out | refine below_set ?_ GE124.out) | exact HB.out)⟩⟩
  case rest =>
    clear HC5
    try clear c1
    try clear p2
    try clear c8
    try clear c8b0
    try clear c8b1
    obtain ⟨kq, x17_4, rfl, HA, HJ4, BK123, BK124, HI0, HK, HB⟩ := hcut
    cases kq with
    | zero => exact absurd HA.out (by simp [deckleref09_one.j0])
    | succ kj4 =>
      have H := HA.out
      clear HA
      simp only [deckleref09_one.j0] at H
      by_cases c9 : x17_4 = true
      · subst c9
        have H1 : ((deckleref03_Reader_Uint.f kj4 s0_0 s0_1 s0_2 (IntKind.u64.wrap ((a3_1.size : Int)))).bind fun bt125 => ((deckleref03_Reader_Bytes.f kj4 s0_0 bt125.2.1 bt125.2.2 (wrap64 (256 - (wrap64 (bt125.1))))).bind fun bt128 => (if 0 ≤ (wrap64 (bt125.1)) then (if (wrap64 (bt125.1)) ≤ (a3_1.size : Int) then (if (a3_1.extract 0 ((wrap64 (bt125.1)) : Int).toNat).size + (strOfNums bt128.1).size ≤ 9223372036854775807 then ((deckleref09_Shared.f kj4 a3_1 ((a3_1.extract 0 ((wrap64 (bt125.1)) : Int).toNat) ++ (strOfNums bt128.1))).bind fun t134 => ((deckleref03_Reader_Must.f s0_0 bt128.2.1 bt128.2.2 (t134 == (wrap64 (bt125.1))) 6).bind fun bt135 => (if a1 = 3 then ((deckleref03_Reader_Must.f s0_0 bt135.1 bt135.2 true 11).bind fun bt137 => (some (0, (a3_1.extract 0 ((wrap64 (bt125.1)) : Int).toNat) ++ (strOfNums bt128.1), bt137.1, bt137.2))) else ((deckleref04_UTF8.f kj4 ((a3_1.extract 0 ((wrap64 (bt125.1)) : Int).toNat) ++ (strOfNums bt128.1))).bind fun t139 => ((deckleref03_Reader_Must.f s0_0 bt135.1 bt135.2 t139 11).bind fun bt140 => (some (0, (a3_1.extract 0 ((wrap64 (bt125.1)) : Int).toNat) ++ (strOfNums bt128.1), bt140.1, bt140.2))))))) else (none)) else (none)) else (none)))) = some (r1, r2, r3, r4) := by rw [if_pos rfl] at H; exact H
        clear H
        have H := H1
        clear H1
        replace H := Option.bind_eq_some_iff.mp H
        obtain ⟨⟨t125, t126, t127⟩, A100, H⟩ := H
        replace H : ((deckleref03_Reader_Bytes.f kj4 s0_0 t126 t127 (wrap64 (256 - (wrap64 (t125))))).bind fun bt128 => (if 0 ≤ (wrap64 (t125)) then (if (wrap64 (t125)) ≤ (a3_1.size : Int) then (if (a3_1.extract 0 ((wrap64 (t125)) : Int).toNat).size + (strOfNums bt128.1).size ≤ 9223372036854775807 then ((deckleref09_Shared.f kj4 a3_1 ((a3_1.extract 0 ((wrap64 (t125)) : Int).toNat) ++ (strOfNums bt128.1))).bind fun t134 => ((deckleref03_Reader_Must.f s0_0 bt128.2.1 bt128.2.2 (t134 == (wrap64 (t125))) 6).bind fun bt135 => (if a1 = 3 then ((deckleref03_Reader_Must.f s0_0 bt135.1 bt135.2 true 11).bind fun bt137 => (some (0, (a3_1.extract 0 ((wrap64 (t125)) : Int).toNat) ++ (strOfNums bt128.1), bt137.1, bt137.2))) else ((deckleref04_UTF8.f kj4 ((a3_1.extract 0 ((wrap64 (t125)) : Int).toNat) ++ (strOfNums bt128.1))).bind fun t139 => ((deckleref03_Reader_Must.f s0_0 bt135.1 bt135.2 t139 11).bind fun bt140 => (some (0, (a3_1.extract 0 ((wrap64 (t125)) : Int).toNat) ++ (strOfNums bt128.1), bt140.1, bt140.2))))))) else (none)) else (none)) else (none))) = some (r1, r2, r3, r4) := H
        have A10 := Aside0.mk A100
        clear A100
        replace H := Option.bind_eq_some_iff.mp H
        obtain ⟨⟨t128, t131, t132⟩, A110, H⟩ := H
        replace H : (if 0 ≤ (wrap64 (t125)) then (if (wrap64 (t125)) ≤ (a3_1.size : Int) then (if (a3_1.extract 0 ((wrap64 (t125)) : Int).toNat).size + (strOfNums t128).size ≤ 9223372036854775807 then ((deckleref09_Shared.f kj4 a3_1 ((a3_1.extract 0 ((wrap64 (t125)) : Int).toNat) ++ (strOfNums t128))).bind fun t134 => ((deckleref03_Reader_Must.f s0_0 t131 t132 (t134 == (wrap64 (t125))) 6).bind fun bt135 => (if a1 = 3 then ((deckleref03_Reader_Must.f s0_0 bt135.1 bt135.2 true 11).bind fun bt137 => (some (0, (a3_1.extract 0 ((wrap64 (t125)) : Int).toNat) ++ (strOfNums t128), bt137.1, bt137.2))) else ((deckleref04_UTF8.f kj4 ((a3_1.extract 0 ((wrap64 (t125)) : Int).toNat) ++ (strOfNums t128))).bind fun t139 => ((deckleref03_Reader_Must.f s0_0 bt135.1 bt135.2 t139 11).bind fun bt140 => (some (0, (a3_1.extract 0 ((wrap64 (t125)) : Int).toNat) ++ (strOfNums t128), bt140.1, bt140.2))))))) else (none)) else (none)) else (none)) = some (r1, r2, r3, r4) := H
        have A11 := Aside0.mk A110
        clear A110
        obtain ⟨ji12, hji12⟩ : ∃ j_ : Int, (wrap64 (t125)) = j_ := ⟨_, rfl⟩
        replace H : (if 0 ≤ (ji12) then (if (ji12) ≤ (a3_1.size : Int) then (if (a3_1.extract 0 ((ji12) : Int).toNat).size + (strOfNums t128).size ≤ 9223372036854775807 then ((deckleref09_Shared.f kj4 a3_1 ((a3_1.extract 0 ((ji12) : Int).toNat) ++ (strOfNums t128))).bind fun t134 => ((deckleref03_Reader_Must.f s0_0 t131 t132 (t134 == (ji12)) 6).bind fun bt135 => (if a1 = 3 then ((deckleref03_Reader_Must.f s0_0 bt135.1 bt135.2 true 11).bind fun bt137 => (some (0, (a3_1.extract 0 ((ji12) : Int).toNat) ++ (strOfNums t128), bt137.1, bt137.2))) else ((deckleref04_UTF8.f kj4 ((a3_1.extract 0 ((ji12) : Int).toNat) ++ (strOfNums t128))).bind fun t139 => ((deckleref03_Reader_Must.f s0_0 bt135.1 bt135.2 t139 11).bind fun bt140 => (some (0, (a3_1.extract 0 ((ji12) : Int).toNat) ++ (strOfNums t128), bt140.1, bt140.2))))))) else (none)) else (none)) else (none)) = some (r1, r2, r3, r4) := by first | (rw [hji12] at H; exact H) | (simp only [hji12] at H ⊢; exact H)
        (try rw [hji12] at A10)
        (try rw [hji12] at A11)
        have hji12w : (IntKind.i64.wrap (t125)) = ji12 := (i64_w _).trans hji12
        by_cases c13 : 0 ≤ (ji12)
        · rw [if_pos c13] at H
          have c13b0 := eq_true c13
          have c13b1 : decide (0 ≤ (ji12)) = true := decide_eq_true c13
          clear c13
          by_cases c14 : (ji12) ≤ (a3_1.size : Int)
          · rw [if_pos c14] at H
            have c14b0 := eq_true c14
            have c14b1 : decide ((ji12) ≤ (a3_1.size : Int)) = true := decide_eq_true c14
            clear c14
            by_cases c15 : (a3_1.extract 0 ((ji12) : Int).toNat).size + (strOfNums t128).size ≤ 9223372036854775807
            · rw [if_pos c15] at H
              have c15b0 := eq_true c15
              have c15b1 : decide ((a3_1.extract 0 ((ji12) : Int).toNat).size + (strOfNums t128).size ≤ 9223372036854775807) = true := decide_eq_true c15
              try have c15b2 : (9223372036854775807 < (a3_1.extract 0 ((ji12) : Int).toNat).size + (strOfNums t128).size) = False := eq_false (Nat.not_lt.2 c15)
              replace H := Option.bind_eq_some_iff.mp H
              obtain ⟨t134, A160, H⟩ := H
              replace H : ((deckleref03_Reader_Must.f s0_0 t131 t132 (t134 == (ji12)) 6).bind fun bt135 => (if a1 = 3 then ((deckleref03_Reader_Must.f s0_0 bt135.1 bt135.2 true 11).bind fun bt137 => (some (0, (a3_1.extract 0 ((ji12) : Int).toNat) ++ (strOfNums t128), bt137.1, bt137.2))) else ((deckleref04_UTF8.f kj4 ((a3_1.extract 0 ((ji12) : Int).toNat) ++ (strOfNums t128))).bind fun t139 => ((deckleref03_Reader_Must.f s0_0 bt135.1 bt135.2 t139 11).bind fun bt140 => (some (0, (a3_1.extract 0 ((ji12) : Int).toNat) ++ (strOfNums t128), bt140.1, bt140.2)))))) = some (r1, r2, r3, r4) := H
              have A16 := Aside0.mk A160
              clear A160
              replace H := Option.bind_eq_some_iff.mp H
              obtain ⟨⟨t135, t136⟩, A170, H⟩ := H
              replace H : (if a1 = 3 then ((deckleref03_Reader_Must.f s0_0 t135 t136 true 11).bind fun bt137 => (some (0, (a3_1.extract 0 ((ji12) : Int).toNat) ++ (strOfNums t128), bt137.1, bt137.2))) else ((deckleref04_UTF8.f kj4 ((a3_1.extract 0 ((ji12) : Int).toNat) ++ (strOfNums t128))).bind fun t139 => ((deckleref03_Reader_Must.f s0_0 t135 t136 t139 11).bind fun bt140 => (some (0, (a3_1.extract 0 ((ji12) : Int).toNat) ++ (strOfNums t128), bt140.1, bt140.2))))) = some (r1, r2, r3, r4) := H
              have A17 := Aside0.mk A170
              clear A170
              by_cases c18 : a1 = 3
              · rw [if_pos c18] at H
                have c18b0 : (a1 == 3) = true := beq_iff_eq.mpr c18
                have c18b1 : (a1 != 3) = false := bne_eq_false_iff_eq.mpr c18
                clear c18
                replace H := Option.bind_eq_some_iff.mp H
                obtain ⟨⟨t137, t138⟩, A190, H⟩ := H
                replace H : (some (0, (a3_1.extract 0 ((ji12) : Int).toNat) ++ (strOfNums t128), t137, t138)) = some (r1, r2, r3, r4) := H
                have A19 := Aside0.mk A190
                clear A190
                simp only [Option.some.injEq, Prod.mk.injEq] at H
                obtain ⟨rfl, rfl, rfl, rfl⟩ := H
                have hnb20 := NB123_124.out
                have hnc20 := NB124_123.out
                have hnb21 := NB123_0.out
                have hnc21 := NB0_123.out
                have hcz22_0 : wc.cell? ⟨gb123, 0, none⟩ = some (.int .u64 a3_0) := (blk_cell BK123.out 0).trans rfl
                have hcz22_1 : wc.cell? ⟨gb123, 1, none⟩ = some (.string a3_1) := (blk_cell BK123.out 1).trans rfl
                have hfz22_0 := blk_frozen BK123.out 0
                have hfz22_1 := blk_frozen BK123.out 1
                go_wp2_with (first | ((with_reducible refine gate_callee (f := 137) rfl ?_); refine goesL_ (some 23) rfl rfl Tryd.func137 (by kernel_rfl) rfl #[.pointer (some ⟨g, 0, none⟩), .int .u64 (IntKind.u64.wrap ((a3_1.size : Int)))] rfl (by (try simp only [List.map_toArray, List.map_cons, List.map_nil]); first | done | rfl | (simp only [List.length_drop, List.length_take]; rfl)) ?_; (with_reducible refine (deckleref03_Reader_Uint.calls kj4 g s0_0 s0_1 s0_2 (IntKind.u64.wrap ((a3_1.size : Int))) t125 t126 t127 w0 _ ?side1 ?side2 A10.out).mono ?_); (case side1 => repeat (first | (with_reducible first | exact HI0.out | apply IsS115.alloc | apply IsS115.drewN | apply IsS115.drew | apply IsS115.set_1 | apply IsS115.set_2 | refine IsS115.far ?_ NB0_123.out _ | refine IsS115.far ?_ NB0_124.out _) | exact HI0.out)); (case side2 => repeat (first | (with_reducible first | exact HB.out | apply below_alloc | apply pw_below_drewN | apply below_drew1 | refine below_set ?_ (IsS115.ge HI0.out) | refine below_set ?_ GE123.out | refine below_set ?_ GE124.out) | exact HB.out)); rintro e w23 ⟨rfl, hi, hb, hk⟩; refine ⟨_, rfl, ?_⟩; have n0_ := Aside0.mk (KeepBut.blk hk (g' := gb123) (o := .cells #[.int .u64 a3_0, .string a3_1] 47 (0, 0)) (by (with_reducible repeat (first | refine blk_drewN ?_ _ | refine blk_drew ?_ | refine blk_alloc ?_ _)); exact BK123.out) NB123_0.out (by simp)); have n1_ := Aside0.mk (KeepBut.blk hk (g' := gb124) (o := .cells #[.int .u64 0, .string (⟨#[]⟩ : ByteArray)] 47 (0, 0)) (by (with_reducible repeat (first | refine blk_drewN ?_ _ | refine blk_drew ?_ | refine blk_alloc ?_ _)); exact BK124.out) NB124_0.out (by simp)); have n2_ := Aside0.mk (KeepBut.trans (by repeat (first | (with_reducible first | exact HK.out | apply KeepBut.set_ | apply keep_drewN | apply keep_drew | apply keep_alloc | refine keep_far ?_ GW123.out _ | refine keep_far ?_ GW124.out _) | exact HK.out)) hk (.inl rfl)); have n3_ := Aside0.mk (hb); have n4_ := Aside0.mk (hi); clear BK123; clear BK124; clear HK; clear HB; clear HI0; have BK123 := n0_; have BK124 := n1_; have HK := n2_; have HB := n3_; have HI0 := n4_; clear n0_ n1_ n2_ n3_ n4_; (try clear hb); (try clear hb2); (try clear hk); (try clear hi)) | ((with_reducible refine gate_callee (f := 138) rfl ?_); refine goesL_ (some 28) rfl rfl Tryd.func138 (by kernel_rfl) rfl #[.pointer (some ⟨g, 0, none⟩), .int .i64 (wrap64 (256 - (ji12)))] rfl (by (try simp only [List.map_toArray, List.map_cons, List.map_nil]); first | done | (simp only [hji12]; rfl) | rfl | (simp only [List.length_drop, List.length_take]; rfl)) ?_; (with_reducible refine (deckleref03_Reader_Bytes.calls kj4 g s0_0 t126 t127 (wrap64 (256 - (ji12))) t128 t131 t132 w0 _ ?side1 ?side2 A11.out).mono ?_); (case side1 => repeat (first | (with_reducible first | exact HI0.out | apply IsS115.alloc | apply IsS115.drewN | apply IsS115.drew | apply IsS115.set_1 | apply IsS115.set_2 | refine IsS115.far ?_ NB0_123.out _ | refine IsS115.far ?_ NB0_124.out _) | exact HI0.out)); (case side2 => repeat (first | (with_reducible first | exact HB.out | apply below_alloc | apply pw_below_drewN | apply below_drew1 | refine below_set ?_ (IsS115.ge HI0.out) | refine below_set ?_ GE123.out | refine below_set ?_ GE124.out) | exact HB.out)); rintro e w24 ⟨v129, rfl, ho0, hi, hb, hk⟩; refine ⟨_, rfl, ?_⟩; have n0_ := Aside0.mk (KeepBut.blk hk (g' := gb123) (o := .cells #[.int .u64 a3_0, .string a3_1] 47 (0, 0)) (by (with_reducible repeat (first | refine blk_drewN ?_ _ | refine blk_drew ?_ | refine blk_alloc ?_ _)); exact BK123.out) NB123_0.out (by simp)); have n1_ := Aside0.mk (KeepBut.blk hk (g' := gb124) (o := .cells #[.int .u64 0, .string (⟨#[]⟩ : ByteArray)] 47 (0, 0)) (by (with_reducible repeat (first | refine blk_drewN ?_ _ | refine blk_drew ?_ | refine blk_alloc ?_ _)); exact BK124.out) NB124_0.out (by simp)); have n2_ := Aside0.mk (Kd.R_lower ho0 (keep_size (w := w) (g := g) (row := none) (by repeat (first | (with_reducible first | exact HK.out | apply KeepBut.set_ | apply keep_drewN | apply keep_drew | apply keep_alloc | refine keep_far ?_ GW123.out _ | refine keep_far ?_ GW124.out _) | exact HK.out)))); have n3_ := Aside0.mk (KeepBut.trans (by repeat (first | (with_reducible first | exact HK.out | apply KeepBut.set_ | apply keep_drewN | apply keep_drew | apply keep_alloc | refine keep_far ?_ GW123.out _ | refine keep_far ?_ GW124.out _) | exact HK.out)) hk (.inl rfl)); have n4_ := Aside0.mk (hb); have n5_ := Aside0.mk (hi); clear BK123; clear BK124; clear HK; clear HB; clear HI0; have BK123 := n0_; have BK124 := n1_; have HO130 := n2_; have HK := n3_; have HB := n4_; have HI0 := n5_; clear n0_ n1_ n2_ n3_ n4_ n5_; (try clear hb); (try clear hb2); (try clear hk); (try clear hi); (try clear ho0); have hcv25 := own_string (P := Tryd.prog) Tryd.underlying25 Tryd.underlying5 Tryd.underlying9 (Kd.own_of_R HO130.out); have hcz26_0 : w24.cell? ⟨gb123, 0, none⟩ = some (.int .u64 a3_0) := (blk_cell BK123.out 0).trans rfl; have hcz26_1 : w24.cell? ⟨gb123, 1, none⟩ = some (.string a3_1) := (blk_cell BK123.out 1).trans rfl; have hfz26_0 := blk_frozen BK123.out 0; have hfz26_1 := blk_frozen BK123.out 1) | ((with_reducible refine gate_dst (N := 11) rfl ?_); refine box_event ?hg (N := 11) ?hd (cs := #[.int .u64 0, .string (⟨#[]⟩ : ByteArray)]) (t := 47) ?hr ?_; (case hd => rfl); (case hg => rfl); (case hr => first | (go_simp; done) | (go_simp; rfl)); intro gb133 hg w27 hbox hb; have n0_ := Aside0.mk (Kd.R_below (by (with_reducible repeat (first | apply Kd.R_alloc | apply Kd.R_drewN | apply Kd.R_drew)); exact HO130.out) hb); have n1_ := Aside0.mk (blk_below (g := gb123) (o := .cells #[.int .u64 a3_0, .string a3_1] 47 (0, 0)) (by (with_reducible repeat (first | refine blk_drewN ?_ _ | refine blk_drew ?_ | refine blk_alloc ?_ _)); exact BK123.out) hb); have n2_ := Aside0.mk (blk_below (g := gb124) (o := .cells #[.int .u64 0, .string (⟨#[]⟩ : ByteArray)] 47 (0, 0)) (by (with_reducible repeat (first | refine blk_drewN ?_ _ | refine blk_drew ?_ | refine blk_alloc ?_ _)); exact BK124.out) hb); have n3_ := Aside0.mk (IsS115.below (by repeat (first | (with_reducible first | exact HI0.out | apply IsS115.alloc | apply IsS115.drewN | apply IsS115.drew | apply IsS115.set_1 | apply IsS115.set_2 | refine IsS115.far ?_ NB0_123.out _ | refine IsS115.far ?_ NB0_124.out _) | exact HI0.out)) hb); have n4_ := Aside0.mk (KeepBut.trans (by repeat (first | (with_reducible first | exact HK.out | apply KeepBut.set_ | apply keep_drewN | apply keep_drew | apply keep_alloc | refine keep_far ?_ GW123.out _ | refine keep_far ?_ GW124.out _) | exact HK.out)) (KeepBut.of_below hb g none) (.inl rfl)); have n5_ := Aside0.mk (below_step (by repeat (first | (with_reducible first | exact HB.out | apply below_alloc | apply pw_below_drewN | apply below_drew1 | refine below_set ?_ (IsS115.ge HI0.out) | refine below_set ?_ GE123.out | refine below_set ?_ GE124.out) | exact HB.out)) hb); have n6_ := Aside0.mk (hbox); have n7_ := Aside0.mk ((by rw [hg]; exact (keep_size (w := w) (g := g) (row := none) (by repeat (first | (with_reducible first | exact HK.out | apply KeepBut.set_ | apply keep_drewN | apply keep_drew | apply keep_alloc | refine keep_far ?_ GW123.out _ | refine keep_far ?_ GW124.out _) | exact HK.out))) : w.heap.size ≤ gb133)); have n8_ := Aside0.mk ((Nat.le_trans HW0.out (by rw [hg]; exact (keep_size (w := w) (g := g) (row := none) (by repeat (first | (with_reducible first | exact HK.out | apply KeepBut.set_ | apply keep_drewN | apply keep_drew | apply keep_alloc | refine keep_far ?_ GW123.out _ | refine keep_far ?_ GW124.out _) | exact HK.out))) : w.heap.size ≤ gb133) : w0.heap.size ≤ gb133)); have n9_ := Aside0.mk ((by rw [hg]; exact Nat.ne_of_lt (blk_lt (g := gb123) (o := .cells #[.int .u64 a3_0, .string a3_1] 47 (0, 0)) (by (with_reducible repeat (first | refine blk_drewN ?_ _ | refine blk_drew ?_ | refine blk_alloc ?_ _)); exact BK123.out)) : gb123 ≠ gb133)); have n10_ := Aside0.mk ((by rw [hg]; exact Nat.ne_of_gt (blk_lt (g := gb123) (o := .cells #[.int .u64 a3_0, .string a3_1] 47 (0, 0)) (by (with_reducible repeat (first | refine blk_drewN ?_ _ | refine blk_drew ?_ | refine blk_alloc ?_ _)); exact BK123.out)) : gb133 ≠ gb123)); have n11_ := Aside0.mk ((by rw [hg]; exact Nat.ne_of_lt (blk_lt (g := gb124) (o := .cells #[.int .u64 0, .string (⟨#[]⟩ : ByteArray)] 47 (0, 0)) (by (with_reducible repeat (first | refine blk_drewN ?_ _ | refine blk_drew ?_ | refine blk_alloc ?_ _)); exact BK124.out)) : gb124 ≠ gb133)); have n12_ := Aside0.mk ((by rw [hg]; exact Nat.ne_of_gt (blk_lt (g := gb124) (o := .cells #[.int .u64 0, .string (⟨#[]⟩ : ByteArray)] 47 (0, 0)) (by (with_reducible repeat (first | refine blk_drewN ?_ _ | refine blk_drew ?_ | refine blk_alloc ?_ _)); exact BK124.out)) : gb133 ≠ gb124)); have n13_ := Aside0.mk ((by rw [hg]; exact Nat.ne_of_lt (IsS115.lt (show IsS115 w0 _ g s0_0 t131 t132 from by repeat (first | (with_reducible first | exact HI0.out | apply IsS115.alloc | apply IsS115.drewN | apply IsS115.drew | apply IsS115.set_1 | apply IsS115.set_2 | refine IsS115.far ?_ NB0_123.out _ | refine IsS115.far ?_ NB0_124.out _) | exact HI0.out))) : g ≠ gb133)); have n14_ := Aside0.mk ((by rw [hg]; exact Nat.ne_of_gt (IsS115.lt (show IsS115 w0 _ g s0_0 t131 t132 from by repeat (first | (with_reducible first | exact HI0.out | apply IsS115.alloc | apply IsS115.drewN | apply IsS115.drew | apply IsS115.set_1 | apply IsS115.set_2 | refine IsS115.far ?_ NB0_123.out _ | refine IsS115.far ?_ NB0_124.out _) | exact HI0.out))) : gb133 ≠ g)); clear HO130; clear BK123; clear BK124; clear HI0; clear HK; clear HB; have HO130 := n0_; have BK123 := n1_; have BK124 := n2_; have HI0 := n3_; have HK := n4_; have HB := n5_; have BK133 := n6_; have GW133 := n7_; have GE133 := n8_; have NB123_133 := n9_; have NB133_123 := n10_; have NB124_133 := n11_; have NB133_124 := n12_; have NB0_133 := n13_; have NB133_0 := n14_; clear n0_ n1_ n2_ n3_ n4_ n5_ n6_ n7_ n8_ n9_ n10_ n11_ n12_ n13_ n14_; clear hb hbox hg; have hnb28 := NB133_123.out; have hnc28 := NB123_133.out; have hnb29 := NB133_124.out; have hnc29 := NB124_133.out; have hnb30 := NB133_0.out; have hnc30 := NB0_133.out; have hcz31_0 : w27.cell? ⟨gb133, 0, none⟩ = some (.int .u64 0) := (blk_cell BK133.out 0).trans rfl; have hcz31_1 : w27.cell? ⟨gb133, 1, none⟩ = some (.string (⟨#[]⟩ : ByteArray)) := (blk_cell BK133.out 1).trans rfl; have hfz31_0 := blk_frozen BK133.out 0; have hfz31_1 := blk_frozen BK133.out 1; have hcz32_0 : w27.cell? ⟨gb123, 0, none⟩ = some (.int .u64 a3_0) := (blk_cell BK123.out 0).trans rfl; have hcz32_1 : w27.cell? ⟨gb123, 1, none⟩ = some (.string a3_1) := (blk_cell BK123.out 1).trans rfl; have hfz32_0 := blk_frozen BK123.out 0; have hfz32_1 := blk_frozen BK123.out 1) | ((with_reducible refine gate_callee (f := 33) rfl ?_); refine goesL_ (some 42) rfl rfl Tryd.func33 (by kernel_rfl) rfl #[.string a3_1, .string ((a3_1.extract 0 ((ji12) : Int).toNat) ++ (strOfNums t128))] rfl (by (try simp only [List.map_toArray, List.map_cons, List.map_nil]); first | done | (simp only [hji12]; rfl) | rfl | (simp only [List.length_drop, List.length_take]; rfl)) ?_; (with_reducible refine (deckleref09_Shared.calls kj4 a3_1 ((a3_1.extract 0 ((ji12) : Int).toNat) ++ (strOfNums t128)) t134 _ A16.out).mono ?_); rintro e w' ⟨rfl, ⟨nd, rfl⟩⟩; refine ⟨_, rfl, ?_⟩) | ((with_reducible refine gate_callee (f := 119) rfl ?_); refine goesL_ (some 45) rfl rfl Tryd.func119 (by kernel_rfl) rfl #[.pointer (some ⟨g, 0, none⟩), .bool (t134 == (ji12)), .int .i64 6] rfl (by (try simp only [List.map_toArray, List.map_cons, List.map_nil]); first | done | (simp only [hji12]; rfl) | rfl | (simp only [List.length_drop, List.length_take]; rfl)) ?_; (with_reducible refine (deckleref03_Reader_Must.calls g s0_0 t131 t132 (t134 == (ji12)) 6 t135 t136 w0 _ ?side1 ?side2 A17.out).mono ?_); (case side1 => repeat (first | (with_reducible first | exact HI0.out | apply IsS115.alloc | apply IsS115.drewN | apply IsS115.drew | apply IsS115.set_1 | apply IsS115.set_2 | refine IsS115.far ?_ NB0_123.out _ | refine IsS115.far ?_ NB0_124.out _ | refine IsS115.far ?_ NB0_133.out _) | exact HI0.out)); (case side2 => repeat (first | (with_reducible first | exact HB.out | apply below_alloc | apply pw_below_drewN | apply below_drew1 | refine below_set ?_ (IsS115.ge HI0.out) | refine below_set ?_ GE123.out | refine below_set ?_ GE124.out | refine below_set ?_ GE133.out) | exact HB.out)); rintro e w33 ⟨rfl, hi, hb, hk⟩; refine ⟨_, rfl, ?_⟩; have n0_ := Aside0.mk (KeepBut.blk hk (g' := gb123) (o := .cells #[.int .u64 a3_0, .string a3_1] 47 (0, 0)) (by (with_reducible repeat (first | refine blk_drewN ?_ _ | refine blk_drew ?_ | refine blk_alloc ?_ _)); refine blk_far ?_ NB123_133.out _; (with_reducible repeat (first | refine blk_drewN ?_ _ | refine blk_drew ?_ | refine blk_alloc ?_ _)); refine blk_far ?_ NB123_133.out _; (with_reducible repeat (first | refine blk_drewN ?_ _ | refine blk_drew ?_ | refine blk_alloc ?_ _)); exact BK123.out) NB123_0.out (by simp)); have n1_ := Aside0.mk (KeepBut.blk hk (g' := gb124) (o := .cells #[.int .u64 0, .string (⟨#[]⟩ : ByteArray)] 47 (0, 0)) (by (with_reducible repeat (first | refine blk_drewN ?_ _ | refine blk_drew ?_ | refine blk_alloc ?_ _)); refine blk_far ?_ NB124_133.out _; (with_reducible repeat (first | refine blk_drewN ?_ _ | refine blk_drew ?_ | refine blk_alloc ?_ _)); refine blk_far ?_ NB124_133.out _; (with_reducible repeat (first | refine blk_drewN ?_ _ | refine blk_drew ?_ | refine blk_alloc ?_ _)); exact BK124.out) NB124_0.out (by simp)); have n2_ := Aside0.mk (Kd.R_mono (Kd.R_keep (IsS115.apart (show IsS115 w0 _ g s0_0 t131 t132 from by repeat (first | (with_reducible first | exact HI0.out | apply IsS115.alloc | apply IsS115.drewN | apply IsS115.drew | apply IsS115.set_1 | apply IsS115.set_2 | refine IsS115.far ?_ NB0_123.out _ | refine IsS115.far ?_ NB0_124.out _ | refine IsS115.far ?_ NB0_133.out _) | exact HI0.out)) (by (with_reducible repeat (first | apply Kd.R_alloc | apply Kd.R_drewN | apply Kd.R_drew)); exact (Kd.R_mono (Kd.R_far (p := ⟨gb133, 1, none⟩) (Kd.R_far (p := ⟨gb133, 0, none⟩) (Kd.R_types HO130.out BK133.out (by decide)) (fun _ hk => hk.2) (.int .u64 0)) (fun _ hk => hk.2) (.string ((a3_1.extract 0 ((ji12) : Int).toNat) ++ (strOfNums t128)))) (fun _ h_ => h_.1))) (by decide)) hk (fun _ h => h.2)) (fun _ h => h.1)); have n3_ := Aside0.mk (KeepBut.blk hk (g' := gb133) (o := .cells #[.int .u64 0, .string ((a3_1.extract 0 ((ji12) : Int).toNat) ++ (strOfNums t128))] 47 (0, 0)) (by (with_reducible repeat (first | refine blk_drewN ?_ _ | refine blk_drew ?_ | refine blk_alloc ?_ _)); refine blk_put (cs := #[.int .u64 0, .string (⟨#[]⟩ : ByteArray)]) ?_ 1 _ rfl; (with_reducible repeat (first | refine blk_drewN ?_ _ | refine blk_drew ?_ | refine blk_alloc ?_ _)); refine blk_put (cs := #[.int .u64 0, .string (⟨#[]⟩ : ByteArray)]) ?_ 0 _ rfl; (with_reducible repeat (first | refine blk_drewN ?_ _ | refine blk_drew ?_ | refine blk_alloc ?_ _)); exact BK133.out) NB133_0.out (by simp)); have n4_ := Aside0.mk (KeepBut.trans (by repeat (first | (with_reducible first | exact HK.out | apply KeepBut.set_ | apply keep_drewN | apply keep_drew | apply keep_alloc | refine keep_far ?_ GW123.out _ | refine keep_far ?_ GW124.out _ | refine keep_far ?_ GW133.out _) | exact HK.out)) hk (.inl rfl)); have n5_ := Aside0.mk (hb); have n6_ := Aside0.mk (hi); clear BK123; clear BK124; clear HO130; clear BK133; clear HK; clear HB; clear HI0; have BK123 := n0_; have BK124 := n1_; have HO130 := n2_; have BK133 := n3_; have HK := n4_; have HB := n5_; have HI0 := n6_; clear n0_ n1_ n2_ n3_ n4_ n5_ n6_; (try clear hb); (try clear hb2); (try clear hk); (try clear hi)) | ((with_reducible refine gate_callee (f := 119) rfl ?_); refine goesL_ (some 54) rfl rfl Tryd.func119 (by kernel_rfl) rfl #[.pointer (some ⟨g, 0, none⟩), .bool true, .int .i64 11] rfl (by (try simp only [List.map_toArray, List.map_cons, List.map_nil]); first | done | rfl | (simp only [List.length_drop, List.length_take]; rfl)) ?_; (with_reducible refine (deckleref03_Reader_Must.calls g s0_0 t135 t136 true 11 t137 t138 w0 _ ?side1 ?side2 A19.out).mono ?_); (case side1 => repeat (first | (with_reducible first | exact HI0.out | apply IsS115.alloc | apply IsS115.drewN | apply IsS115.drew | apply IsS115.set_1 | apply IsS115.set_2 | refine IsS115.far ?_ NB0_123.out _ | refine IsS115.far ?_ NB0_124.out _ | refine IsS115.far ?_ NB0_133.out _) | exact HI0.out)); (case side2 => repeat (first | (with_reducible first | exact HB.out | apply below_alloc | apply pw_below_drewN | apply below_drew1 | refine below_set ?_ (IsS115.ge HI0.out) | refine below_set ?_ GE123.out | refine below_set ?_ GE124.out | refine below_set ?_ GE133.out) | exact HB.out)); rintro e w34 ⟨rfl, hi, hb, hk⟩; refine ⟨_, rfl, ?_⟩; have n0_ := Aside0.mk (KeepBut.blk hk (g' := gb123) (o := .cells #[.int .u64 a3_0, .string a3_1] 47 (0, 0)) (by (with_reducible repeat (first | refine blk_drewN ?_ _ | refine blk_drew ?_ | refine blk_alloc ?_ _)); exact BK123.out) NB123_0.out (by simp)); have n1_ := Aside0.mk (KeepBut.blk hk (g' := gb124) (o := .cells #[.int .u64 0, .string (⟨#[]⟩ : ByteArray)] 47 (0, 0)) (by (with_reducible repeat (first | refine blk_drewN ?_ _ | refine blk_drew ?_ | refine blk_alloc ?_ _)); exact BK124.out) NB124_0.out (by simp)); have n2_ := Aside0.mk (Kd.R_mono (Kd.R_keep (IsS115.apart (show IsS115 w0 _ g s0_0 t135 t136 from by repeat (first | (with_reducible first | exact HI0.out | apply IsS115.alloc | apply IsS115.drewN | apply IsS115.drew | apply IsS115.set_1 | apply IsS115.set_2 | refine IsS115.far ?_ NB0_123.out _ | refine IsS115.far ?_ NB0_124.out _ | refine IsS115.far ?_ NB0_133.out _) | exact HI0.out)) (by (with_reducible repeat (first | apply Kd.R_alloc | apply Kd.R_drewN | apply Kd.R_drew)); exact HO130.out) (by decide)) hk (fun _ h => h.2)) (fun _ h => h.1)); have n3_ := Aside0.mk (KeepBut.blk hk (g' := gb133) (o := .cells #[.int .u64 0, .string ((a3_1.extract 0 ((ji12) : Int).toNat) ++ (strOfNums t128))] 47 (0, 0)) (by (with_reducible repeat (first | refine blk_drewN ?_ _ | refine blk_drew ?_ | refine blk_alloc ?_ _)); exact BK133.out) NB133_0.out (by simp)); have n4_ := Aside0.mk (KeepBut.trans (by repeat (first | (with_reducible first | exact HK.out | apply KeepBut.set_ | apply keep_drewN | apply keep_drew | apply keep_alloc | refine keep_far ?_ GW123.out _ | refine keep_far ?_ GW124.out _ | refine keep_far ?_ GW133.out _) | exact HK.out)) hk (.inl rfl)); have n5_ := Aside0.mk (hb); have n6_ := Aside0.mk (hi); clear BK123; clear BK124; clear HO130; clear BK133; clear HK; clear HB; clear HI0; have BK123 := n0_; have BK124 := n1_; have HO130 := n2_; have BK133 := n3_; have HK := n4_; have HB := n5_; have HI0 := n6_; clear n0_ n1_ n2_ n3_ n4_ n5_ n6_; (try clear hb); (try clear hb2); (try clear hk); (try clear hi); have hcz35_0 : w34.cell? ⟨gb133, 0, none⟩ = some (.int .u64 0) := (blk_cell BK133.out 0).trans rfl; have hcz35_1 : w34.cell? ⟨gb133, 1, none⟩ = some (.string ((a3_1.extract 0 ((ji12) : Int).toNat) ++ (strOfNums t128))) := (blk_cell BK133.out 1).trans rfl; have hfz35_0 := blk_frozen BK133.out 0; have hfz35_1 := blk_frozen BK133.out 1; have hnb36 := NB124_0.out; have hnc36 := NB0_124.out; have hcz37_0 : w34.cell? ⟨gb124, 0, none⟩ = some (.int .u64 0) := (blk_cell BK124.out 0).trans rfl; have hcz37_1 : w34.cell? ⟨gb124, 1, none⟩ = some (.string (⟨#[]⟩ : ByteArray)) := (blk_cell BK124.out 1).trans rfl; have hfz37_0 := blk_frozen BK124.out 0; have hfz37_1 := blk_frozen BK124.out 1))
                refine bodyPost_ret (results_cell_row rfl _ _ gb124 47 #[.int .u64 0, .string ((a3_1.extract 0 ((ji12) : Int).toNat) ++ (strOfNums t128))] (0, 0) _ rfl (by (with_reducible repeat (first | refine blk_drewN ?_ _ | refine blk_drew ?_ | refine blk_alloc ?_ _)); refine blk_put (cs := #[.int .u64 0, .string (⟨#[]⟩ : ByteArray)]) ?_ 1 _ rfl; (with_reducible repeat (first | refine blk_drewN ?_ _ | refine blk_drew ?_ | refine blk_alloc ?_ _)); refine blk_put (cs := #[.int .u64 0, .string (⟨#[]⟩ : ByteArray)]) ?_ 0 _ rfl; (with_reducible repeat (first | refine blk_drewN ?_ _ | refine blk_drew ?_ | refine blk_alloc ?_ _)); exact BK124.out) Tryd.underlying47 rfl (by kernel_rfl)) rfl ?_
                exact ⟨by first | rfl | (simp [errW_none, errW_some] <;> rfl) | (simp only [← hji12]; first | rfl | (simp [errW_none, errW_some] <;> rfl)) | (simp [*, errW_none, errW_some] <;> rfl), by repeat (first | (with_reducible first | exact HI0.out | apply IsS115.alloc | apply IsS115.drewN | apply IsS115.drew | apply IsS115.set_1 | apply IsS115.set_2 | refine IsS115.far ?_ NB0_123.out _ | refine IsS115.far ?_ NB0_124.out _ | refine IsS115.far ?_ NB0_133.out _) | exact HI0.out), by repeat (first | (with_reducible first | exact HB.out | apply below_alloc | apply pw_below_drewN | apply below_drew1 | refine below_set ?_ (IsS115.ge HI0.out) | refine below_set ?_ GE123.out | refine below_set ?_ GE124.out | refine below_set ?_ GE133.out) | exact HB.out), by repeat (first | (with_reducible first | exact HK.out | apply KeepBut.set_ | apply keep_drewN | apply keep_drew | apply keep_alloc | refine keep_far ?_ GW123.out _ | refine keep_far ?_ GW124.out _ | refine keep_far ?_ GW133.out _) | exact HK.out)⟩
              · rw [if_neg c18] at H
                have c18b0 : (a1 == 3) = false := beq_eq_false_iff_ne.mpr c18
                have c18b1 : (a1 != 3) = true := bne_iff_ne.mpr c18
                replace H := Option.bind_eq_some_iff.mp H
                obtain ⟨t139, A380, H⟩ := H
                replace H : ((deckleref03_Reader_Must.f s0_0 t135 t136 t139 11).bind fun bt140 => (some (0, (a3_1.extract 0 ((ji12) : Int).toNat) ++ (strOfNums t128), bt140.1, bt140.2))) = some (r1, r2, r3, r4) := H
                have A38 := Aside0.mk A380
                clear A380
                replace H := Option.bind_eq_some_iff.mp H
                obtain ⟨⟨t140, t141⟩, A390, H⟩ := H
                replace H : (some (0, (a3_1.extract 0 ((ji12) : Int).toNat) ++ (strOfNums t128), t140, t141)) = some (r1, r2, r3, r4) := H
                have A39 := Aside0.mk A390
                clear A390
                simp only [Option.some.injEq, Prod.mk.injEq] at H
                obtain ⟨rfl, rfl, rfl, rfl⟩ := H
                have hnb40 := NB123_124.out
                have hnc40 := NB124_123.out
                have hnb41 := NB123_0.out
                have hnc41 := NB0_123.out
                have hcz42_0 : wc.cell? ⟨gb123, 0, none⟩ = some (.int .u64 a3_0) := (blk_cell BK123.out 0).trans rfl
                have hcz42_1 : wc.cell? ⟨gb123, 1, none⟩ = some (.string a3_1) := (blk_cell BK123.out 1).trans rfl
                have hfz42_0 := blk_frozen BK123.out 0
                have hfz42_1 := blk_frozen BK123.out 1
                go_wp2_with (first | ((with_reducible refine gate_callee (f := 137) rfl ?_); refine goesL_ (some 23) rfl rfl Tryd.func137 (by kernel_rfl) rfl #[.pointer (some ⟨g, 0, none⟩), .int .u64 (IntKind.u64.wrap ((a3_1.size : Int)))] rfl (by (try simp only [List.map_toArray, List.map_cons, List.map_nil]); first | done | rfl | (simp only [List.length_drop, List.length_take]; rfl)) ?_; (with_reducible refine (deckleref03_Reader_Uint.calls kj4 g s0_0 s0_1 s0_2 (IntKind.u64.wrap ((a3_1.size : Int))) t125 t126 t127 w0 _ ?side1 ?side2 A10.out).mono ?_); (case side1 => repeat (first | (with_reducible first | exact HI0.out | apply IsS115.alloc | apply IsS115.drewN | apply IsS115.drew | apply IsS115.set_1 | apply IsS115.set_2 | refine IsS115.far ?_ NB0_123.out _ | refine IsS115.far ?_ NB0_124.out _) | exact HI0.out)); (case side2 => repeat (first | (with_reducible first | exact HB.out | apply below_alloc | apply pw_below_drewN | apply below_drew1 | refine below_set ?_ (IsS115.ge HI0.out) | refine below_set ?_ GE123.out | refine below_set ?_ GE124.out) | exact HB.out)); rintro e w43 ⟨rfl, hi, hb, hk⟩; refine ⟨_, rfl, ?_⟩; have n0_ := Aside0.mk (KeepBut.blk hk (g' := gb123) (o := .cells #[.int .u64 a3_0, .string a3_1] 47 (0, 0)) (by (with_reducible repeat (first | refine blk_drewN ?_ _ | refine blk_drew ?_ | refine blk_alloc ?_ _)); exact BK123.out) NB123_0.out (by simp)); have n1_ := Aside0.mk (KeepBut.blk hk (g' := gb124) (o := .cells #[.int .u64 0, .string (⟨#[]⟩ : ByteArray)] 47 (0, 0)) (by (with_reducible repeat (first | refine blk_drewN ?_ _ | refine blk_drew ?_ | refine blk_alloc ?_ _)); exact BK124.out) NB124_0.out (by simp)); have n2_ := Aside0.mk (KeepBut.trans (by repeat (first | (with_reducible first | exact HK.out | apply KeepBut.set_ | apply keep_drewN | apply keep_drew | apply keep_alloc | refine keep_far ?_ GW123.out _ | refine keep_far ?_ GW124.out _) | exact HK.out)) hk (.inl rfl)); have n3_ := Aside0.mk (hb); have n4_ := Aside0.mk (hi); clear BK123; clear BK124; clear HK; clear HB; clear HI0; have BK123 := n0_; have BK124 := n1_; have HK := n2_; have HB := n3_; have HI0 := n4_; clear n0_ n1_ n2_ n3_ n4_; (try clear hb); (try clear hb2); (try clear hk); (try clear hi)) | ((with_reducible refine gate_callee (f := 138) rfl ?_); refine goesL_ (some 28) rfl rfl Tryd.func138 (by kernel_rfl) rfl #[.pointer (some ⟨g, 0, none⟩), .int .i64 (wrap64 (256 - (ji12)))] rfl (by (try simp only [List.map_toArray, List.map_cons, List.map_nil]); first | done | (simp only [hji12]; rfl) | rfl | (simp only [List.length_drop, List.length_take]; rfl)) ?_; (with_reducible refine (deckleref03_Reader_Bytes.calls kj4 g s0_0 t126 t127 (wrap64 (256 - (ji12))) t128 t131 t132 w0 _ ?side1 ?side2 A11.out).mono ?_); (case side1 => repeat (first | (with_reducible first | exact HI0.out | apply IsS115.alloc | apply IsS115.drewN | apply IsS115.drew | apply IsS115.set_1 | apply IsS115.set_2 | refine IsS115.far ?_ NB0_123.out _ | refine IsS115.far ?_ NB0_124.out _) | exact HI0.out)); (case side2 => repeat (first | (with_reducible first | exact HB.out | apply below_alloc | apply pw_below_drewN | apply below_drew1 | refine below_set ?_ (IsS115.ge HI0.out) | refine below_set ?_ GE123.out | refine below_set ?_ GE124.out) | exact HB.out)); rintro e w44 ⟨v129, rfl, ho0, hi, hb, hk⟩; refine ⟨_, rfl, ?_⟩; have n0_ := Aside0.mk (KeepBut.blk hk (g' := gb123) (o := .cells #[.int .u64 a3_0, .string a3_1] 47 (0, 0)) (by (with_reducible repeat (first | refine blk_drewN ?_ _ | refine blk_drew ?_ | refine blk_alloc ?_ _)); exact BK123.out) NB123_0.out (by simp)); have n1_ := Aside0.mk (KeepBut.blk hk (g' := gb124) (o := .cells #[.int .u64 0, .string (⟨#[]⟩ : ByteArray)] 47 (0, 0)) (by (with_reducible repeat (first | refine blk_drewN ?_ _ | refine blk_drew ?_ | refine blk_alloc ?_ _)); exact BK124.out) NB124_0.out (by simp)); have n2_ := Aside0.mk (Kd.R_lower ho0 (keep_size (w := w) (g := g) (row := none) (by repeat (first | (with_reducible first | exact HK.out | apply KeepBut.set_ | apply keep_drewN | apply keep_drew | apply keep_alloc | refine keep_far ?_ GW123.out _ | refine keep_far ?_ GW124.out _) | exact HK.out)))); have n3_ := Aside0.mk (KeepBut.trans (by repeat (first | (with_reducible first | exact HK.out | apply KeepBut.set_ | apply keep_drewN | apply keep_drew | apply keep_alloc | refine keep_far ?_ GW123.out _ | refine keep_far ?_ GW124.out _) | exact HK.out)) hk (.inl rfl)); have n4_ := Aside0.mk (hb); have n5_ := Aside0.mk (hi); clear BK123; clear BK124; clear HK; clear HB; clear HI0; have BK123 := n0_; have BK124 := n1_; have HO130 := n2_; have HK := n3_; have HB := n4_; have HI0 := n5_; clear n0_ n1_ n2_ n3_ n4_ n5_; (try clear hb); (try clear hb2); (try clear hk); (try clear hi); (try clear ho0); have hcv45 := own_string (P := Tryd.prog) Tryd.underlying25 Tryd.underlying5 Tryd.underlying9 (Kd.own_of_R HO130.out); have hcz46_0 : w44.cell? ⟨gb123, 0, none⟩ = some (.int .u64 a3_0) := (blk_cell BK123.out 0).trans rfl; have hcz46_1 : w44.cell? ⟨gb123, 1, none⟩ = some (.string a3_1) := (blk_cell BK123.out 1).trans rfl; have hfz46_0 := blk_frozen BK123.out 0; have hfz46_1 := blk_frozen BK123.out 1) | ((with_reducible refine gate_dst (N := 11) rfl ?_); refine box_event ?hg (N := 11) ?hd (cs := #[.int .u64 0, .string (⟨#[]⟩ : ByteArray)]) (t := 47) ?hr ?_; (case hd => rfl); (case hg => rfl); (case hr => first | (go_simp; done) | (go_simp; rfl)); intro gb133 hg w47 hbox hb; have n0_ := Aside0.mk (Kd.R_below (by (with_reducible repeat (first | apply Kd.R_alloc | apply Kd.R_drewN | apply Kd.R_drew)); exact HO130.out) hb); have n1_ := Aside0.mk (blk_below (g := gb123) (o := .cells #[.int .u64 a3_0, .string a3_1] 47 (0, 0)) (by (with_reducible repeat (first | refine blk_drewN ?_ _ | refine blk_drew ?_ | refine blk_alloc ?_ _)); exact BK123.out) hb); have n2_ := Aside0.mk (blk_below (g := gb124) (o := .cells #[.int .u64 0, .string (⟨#[]⟩ : ByteArray)] 47 (0, 0)) (by (with_reducible repeat (first | refine blk_drewN ?_ _ | refine blk_drew ?_ | refine blk_alloc ?_ _)); exact BK124.out) hb); have n3_ := Aside0.mk (IsS115.below (by repeat (first | (with_reducible first | exact HI0.out | apply IsS115.alloc | apply IsS115.drewN | apply IsS115.drew | apply IsS115.set_1 | apply IsS115.set_2 | refine IsS115.far ?_ NB0_123.out _ | refine IsS115.far ?_ NB0_124.out _) | exact HI0.out)) hb); have n4_ := Aside0.mk (KeepBut.trans (by repeat (first | (with_reducible first | exact HK.out | apply KeepBut.set_ | apply keep_drewN | apply keep_drew | apply keep_alloc | refine keep_far ?_ GW123.out _ | refine keep_far ?_ GW124.out _) | exact HK.out)) (KeepBut.of_below hb g none) (.inl rfl)); have n5_ := Aside0.mk (below_step (by repeat (first | (with_reducible first | exact HB.out | apply below_alloc | apply pw_below_drewN | apply below_drew1 | refine below_set ?_ (IsS115.ge HI0.out) | refine below_set ?_ GE123.out | refine below_set ?_ GE124.out) | exact HB.out)) hb); have n6_ := Aside0.mk (hbox); have n7_ := Aside0.mk ((by rw [hg]; exact (keep_size (w := w) (g := g) (row := none) (by repeat (first | (with_reducible first | exact HK.out | apply KeepBut.set_ | apply keep_drewN | apply keep_drew | apply keep_alloc | refine keep_far ?_ GW123.out _ | refine keep_far ?_ GW124.out _) | exact HK.out))) : w.heap.size ≤ gb133)); have n8_ := Aside0.mk ((Nat.le_trans HW0.out (by rw [hg]; exact (keep_size (w := w) (g := g) (row := none) (by repeat (first | (with_reducible first | exact HK.out | apply KeepBut.set_ | apply keep_drewN | apply keep_drew | apply keep_alloc | refine keep_far ?_ GW123.out _ | refine keep_far ?_ GW124.out _) | exact HK.out))) : w.heap.size ≤ gb133) : w0.heap.size ≤ gb133)); have n9_ := Aside0.mk ((by rw [hg]; exact Nat.ne_of_lt (blk_lt (g := gb123) (o := .cells #[.int .u64 a3_0, .string a3_1] 47 (0, 0)) (by (with_reducible repeat (first | refine blk_drewN ?_ _ | refine blk_drew ?_ | refine blk_alloc ?_ _)); exact BK123.out)) : gb123 ≠ gb133)); have n10_ := Aside0.mk ((by rw [hg]; exact Nat.ne_of_gt (blk_lt (g := gb123) (o := .cells #[.int .u64 a3_0, .string a3_1] 47 (0, 0)) (by (with_reducible repeat (first | refine blk_drewN ?_ _ | refine blk_drew ?_ | refine blk_alloc ?_ _)); exact BK123.out)) : gb133 ≠ gb123)); have n11_ := Aside0.mk ((by rw [hg]; exact Nat.ne_of_lt (blk_lt (g := gb124) (o := .cells #[.int .u64 0, .string (⟨#[]⟩ : ByteArray)] 47 (0, 0)) (by (with_reducible repeat (first | refine blk_drewN ?_ _ | refine blk_drew ?_ | refine blk_alloc ?_ _)); exact BK124.out)) : gb124 ≠ gb133)); have n12_ := Aside0.mk ((by rw [hg]; exact Nat.ne_of_gt (blk_lt (g := gb124) (o := .cells #[.int .u64 0, .string (⟨#[]⟩ : ByteArray)] 47 (0, 0)) (by (with_reducible repeat (first | refine blk_drewN ?_ _ | refine blk_drew ?_ | refine blk_alloc ?_ _)); exact BK124.out)) : gb133 ≠ gb124)); have n13_ := Aside0.mk ((by rw [hg]; exact Nat.ne_of_lt (IsS115.lt (show IsS115 w0 _ g s0_0 t131 t132 from by repeat (first | (with_reducible first | exact HI0.out | apply IsS115.alloc | apply IsS115.drewN | apply IsS115.drew | apply IsS115.set_1 | apply IsS115.set_2 | refine IsS115.far ?_ NB0_123.out _ | refine IsS115.far ?_ NB0_124.out _) | exact HI0.out))) : g ≠ gb133)); have n14_ := Aside0.mk ((by rw [hg]; exact Nat.ne_of_gt (IsS115.lt (show IsS115 w0 _ g s0_0 t131 t132 from by repeat (first | (with_reducible first | exact HI0.out | apply IsS115.alloc | apply IsS115.drewN | apply IsS115.drew | apply IsS115.set_1 | apply IsS115.set_2 | refine IsS115.far ?_ NB0_123.out _ | refine IsS115.far ?_ NB0_124.out _) | exact HI0.out))) : gb133 ≠ g)); clear HO130; clear BK123; clear BK124; clear HI0; clear HK; clear HB; have HO130 := n0_; have BK123 := n1_; have BK124 := n2_; have HI0 := n3_; have HK := n4_; have HB := n5_; have BK133 := n6_; have GW133 := n7_; have GE133 := n8_; have NB123_133 := n9_; have NB133_123 := n10_; have NB124_133 := n11_; have NB133_124 := n12_; have NB0_133 := n13_; have NB133_0 := n14_; clear n0_ n1_ n2_ n3_ n4_ n5_ n6_ n7_ n8_ n9_ n10_ n11_ n12_ n13_ n14_; clear hb hbox hg; have hnb48 := NB133_123.out; have hnc48 := NB123_133.out; have hnb49 := NB133_124.out; have hnc49 := NB124_133.out; have hnb50 := NB133_0.out; have hnc50 := NB0_133.out; have hcz51_0 : w47.cell? ⟨gb133, 0, none⟩ = some (.int .u64 0) := (blk_cell BK133.out 0).trans rfl; have hcz51_1 : w47.cell? ⟨gb133, 1, none⟩ = some (.string (⟨#[]⟩ : ByteArray)) := (blk_cell BK133.out 1).trans rfl; have hfz51_0 := blk_frozen BK133.out 0; have hfz51_1 := blk_frozen BK133.out 1; have hcz52_0 : w47.cell? ⟨gb123, 0, none⟩ = some (.int .u64 a3_0) := (blk_cell BK123.out 0).trans rfl; have hcz52_1 : w47.cell? ⟨gb123, 1, none⟩ = some (.string a3_1) := (blk_cell BK123.out 1).trans rfl; have hfz52_0 := blk_frozen BK123.out 0; have hfz52_1 := blk_frozen BK123.out 1) | ((with_reducible refine gate_callee (f := 33) rfl ?_); refine goesL_ (some 42) rfl rfl Tryd.func33 (by kernel_rfl) rfl #[.string a3_1, .string ((a3_1.extract 0 ((ji12) : Int).toNat) ++ (strOfNums t128))] rfl (by (try simp only [List.map_toArray, List.map_cons, List.map_nil]); first | done | (simp only [hji12]; rfl) | rfl | (simp only [List.length_drop, List.length_take]; rfl)) ?_; (with_reducible refine (deckleref09_Shared.calls kj4 a3_1 ((a3_1.extract 0 ((ji12) : Int).toNat) ++ (strOfNums t128)) t134 _ A16.out).mono ?_); rintro e w' ⟨rfl, ⟨nd, rfl⟩⟩; refine ⟨_, rfl, ?_⟩) | ((with_reducible refine gate_callee (f := 119) rfl ?_); refine goesL_ (some 45) rfl rfl Tryd.func119 (by kernel_rfl) rfl #[.pointer (some ⟨g, 0, none⟩), .bool (t134 == (ji12)), .int .i64 6] rfl (by (try simp only [List.map_toArray, List.map_cons, List.map_nil]); first | done | (simp only [hji12]; rfl) | rfl | (simp only [List.length_drop, List.length_take]; rfl)) ?_; (with_reducible refine (deckleref03_Reader_Must.calls g s0_0 t131 t132 (t134 == (ji12)) 6 t135 t136 w0 _ ?side1 ?side2 A17.out).mono ?_); (case side1 => repeat (first | (with_reducible first | exact HI0.out | apply IsS115.alloc | apply IsS115.drewN | apply IsS115.drew | apply IsS115.set_1 | apply IsS115.set_2 | refine IsS115.far ?_ NB0_123.out _ | refine IsS115.far ?_ NB0_124.out _ | refine IsS115.far ?_ NB0_133.out _) | exact HI0.out)); (case side2 => repeat (first | (with_reducible first | exact HB.out | apply below_alloc | apply pw_below_drewN | apply below_drew1 | refine below_set ?_ (IsS115.ge HI0.out) | refine below_set ?_ GE123.out | refine below_set ?_ GE124.out | refine below_set ?_ GE133.out) | exact HB.out)); rintro e w53 ⟨rfl, hi, hb, hk⟩; refine ⟨_, rfl, ?_⟩; have n0_ := Aside0.mk (KeepBut.blk hk (g' := gb123) (o := .cells #[.int .u64 a3_0, .string a3_1] 47 (0, 0)) (by (with_reducible repeat (first | refine blk_drewN ?_ _ | refine blk_drew ?_ | refine blk_alloc ?_ _)); refine blk_far ?_ NB123_133.out _; (with_reducible repeat (first | refine blk_drewN ?_ _ | refine blk_drew ?_ | refine blk_alloc ?_ _)); refine blk_far ?_ NB123_133.out _; (with_reducible repeat (first | refine blk_drewN ?_ _ | refine blk_drew ?_ | refine blk_alloc ?_ _)); exact BK123.out) NB123_0.out (by simp)); have n1_ := Aside0.mk (KeepBut.blk hk (g' := gb124) (o := .cells #[.int .u64 0, .string (⟨#[]⟩ : ByteArray)] 47 (0, 0)) (by (with_reducible repeat (first | refine blk_drewN ?_ _ | refine blk_drew ?_ | refine blk_alloc ?_ _)); refine blk_far ?_ NB124_133.out _; (with_reducible repeat (first | refine blk_drewN ?_ _ | refine blk_drew ?_ | refine blk_alloc ?_ _)); refine blk_far ?_ NB124_133.out _; (with_reducible repeat (first | refine blk_drewN ?_ _ | refine blk_drew ?_ | refine blk_alloc ?_ _)); exact BK124.out) NB124_0.out (by simp)); have n2_ := Aside0.mk (Kd.R_mono (Kd.R_keep (IsS115.apart (show IsS115 w0 _ g s0_0 t131 t132 from by repeat (first | (with_reducible first | exact HI0.out | apply IsS115.alloc | apply IsS115.drewN | apply IsS115.drew | apply IsS115.set_1 | apply IsS115.set_2 | refine IsS115.far ?_ NB0_123.out _ | refine IsS115.far ?_ NB0_124.out _ | refine IsS115.far ?_ NB0_133.out _) | exact HI0.out)) (by (with_reducible repeat (first | apply Kd.R_alloc | apply Kd.R_drewN | apply Kd.R_drew)); exact (Kd.R_mono (Kd.R_far (p := ⟨gb133, 1, none⟩) (Kd.R_far (p := ⟨gb133, 0, none⟩) (Kd.R_types HO130.out BK133.out (by decide)) (fun _ hk => hk.2) (.int .u64 0)) (fun _ hk => hk.2) (.string ((a3_1.extract 0 ((ji12) : Int).toNat) ++ (strOfNums t128)))) (fun _ h_ => h_.1))) (by decide)) hk (fun _ h => h.2)) (fun _ h => h.1)); have n3_ := Aside0.mk (KeepBut.blk hk (g' := gb133) (o := .cells #[.int .u64 0, .string ((a3_1.extract 0 ((ji12) : Int).toNat) ++ (strOfNums t128))] 47 (0, 0)) (by (with_reducible repeat (first | refine blk_drewN ?_ _ | refine blk_drew ?_ | refine blk_alloc ?_ _)); refine blk_put (cs := #[.int .u64 0, .string (⟨#[]⟩ : ByteArray)]) ?_ 1 _ rfl; (with_reducible repeat (first | refine blk_drewN ?_ _ | refine blk_drew ?_ | refine blk_alloc ?_ _)); refine blk_put (cs := #[.int .u64 0, .string (⟨#[]⟩ : ByteArray)]) ?_ 0 _ rfl; (with_reducible repeat (first | refine blk_drewN ?_ _ | refine blk_drew ?_ | refine blk_alloc ?_ _)); exact BK133.out) NB133_0.out (by simp)); have n4_ := Aside0.mk (KeepBut.trans (by repeat (first | (with_reducible first | exact HK.out | apply KeepBut.set_ | apply keep_drewN | apply keep_drew | apply keep_alloc | refine keep_far ?_ GW123.out _ | refine keep_far ?_ GW124.out _ | refine keep_far ?_ GW133.out _) | exact HK.out)) hk (.inl rfl)); have n5_ := Aside0.mk (hb); have n6_ := Aside0.mk (hi); clear BK123; clear BK124; clear HO130; clear BK133; clear HK; clear HB; clear HI0; have BK123 := n0_; have BK124 := n1_; have HO130 := n2_; have BK133 := n3_; have HK := n4_; have HB := n5_; have HI0 := n6_; clear n0_ n1_ n2_ n3_ n4_ n5_ n6_; (try clear hb); (try clear hb2); (try clear hk); (try clear hi); have hcz54_0 : w53.cell? ⟨gb133, 0, none⟩ = some (.int .u64 0) := (blk_cell BK133.out 0).trans rfl; have hcz54_1 : w53.cell? ⟨gb133, 1, none⟩ = some (.string ((a3_1.extract 0 ((ji12) : Int).toNat) ++ (strOfNums t128))) := (blk_cell BK133.out 1).trans rfl; have hfz54_0 := blk_frozen BK133.out 0; have hfz54_1 := blk_frozen BK133.out 1) | (go_at_call 87; (with_reducible refine (deckleref04_UTF8.calls kj4 ((a3_1.extract 0 ((ji12) : Int).toNat) ++ (strOfNums t128)) t139 _ A38.out).mono ?_); rintro e w' ⟨rfl, ⟨nd, rfl⟩⟩; (try (rw [drewN_self w53]; generalize hq_ : World.drewN w53 _ = w53; have n0_ : Aside0 (Kd.R (Kd.int .u8) 5 w53 w.heap.size (fun _ => True) v129 t128) := ⟨by rw [← hq_]; exact (by (with_reducible repeat (first | apply Kd.R_alloc | apply Kd.R_drewN | apply Kd.R_drew)); exact HO130.out)⟩; have n1_ : Aside0 (w53.heap[gb123]? = some (.cells #[.int .u64 a3_0, .string a3_1] 47 (0, 0))) := ⟨by rw [← hq_]; exact (by (with_reducible repeat (first | refine blk_drewN ?_ _ | refine blk_drew ?_ | refine blk_alloc ?_ _)); exact BK123.out)⟩; have n2_ : Aside0 (w53.heap[gb124]? = some (.cells #[.int .u64 0, .string (⟨#[]⟩ : ByteArray)] 47 (0, 0))) := ⟨by rw [← hq_]; exact (by (with_reducible repeat (first | refine blk_drewN ?_ _ | refine blk_drew ?_ | refine blk_alloc ?_ _)); exact BK124.out)⟩; have n3_ : Aside0 (w53.heap[gb133]? = some (.cells #[.int .u64 0, .string ((a3_1.extract 0 ((ji12) : Int).toNat) ++ (strOfNums t128))] 47 (0, 0))) := ⟨by rw [← hq_]; exact (by (with_reducible repeat (first | refine blk_drewN ?_ _ | refine blk_drew ?_ | refine blk_alloc ?_ _)); exact BK133.out)⟩; have n4_ : Aside0 (IsS115 w0 w53 g s0_0 t135 t136) := ⟨by rw [← hq_]; exact (by repeat (first | (with_reducible first | exact HI0.out | apply IsS115.alloc | apply IsS115.drewN | apply IsS115.drew | apply IsS115.set_1 | apply IsS115.set_2 | refine IsS115.far ?_ NB0_123.out _ | refine IsS115.far ?_ NB0_124.out _ | refine IsS115.far ?_ NB0_133.out _) | exact HI0.out))⟩; have n5_ : Aside0 (KeepBut w w53 g none) := ⟨by rw [← hq_]; exact (by repeat (first | (with_reducible first | exact HK.out | apply KeepBut.set_ | apply keep_drewN | apply keep_drew | apply keep_alloc | refine keep_far ?_ GW123.out _ | refine keep_far ?_ GW124.out _ | refine keep_far ?_ GW133.out _) | exact HK.out))⟩; have n6_ : Aside0 (Below w0.heap.size w0 w53) := ⟨by rw [← hq_]; exact (by repeat (first | (with_reducible first | exact HB.out | apply below_alloc | apply pw_below_drewN | apply below_drew1 | refine below_set ?_ (IsS115.ge HI0.out) | refine below_set ?_ GE123.out | refine below_set ?_ GE124.out | refine below_set ?_ GE133.out) | exact HB.out))⟩; clear HO130 BK123 BK124 BK133 HI0 HK HB hq_; have HO130 := n0_; have BK123 := n1_; have BK124 := n2_; have BK133 := n3_; have HI0 := n4_; have HK := n5_; have HB := n6_; clear n0_ n1_ n2_ n3_ n4_ n5_ n6_))) | ((with_reducible refine gate_callee (f := 119) rfl ?_); refine goesL_ (some 54) rfl rfl Tryd.func119 (by kernel_rfl) rfl #[.pointer (some ⟨g, 0, none⟩), .bool t139, .int .i64 11] rfl (by (try simp only [List.map_toArray, List.map_cons, List.map_nil]); first | done | rfl | (simp only [List.length_drop, List.length_take]; rfl)) ?_; (with_reducible refine (deckleref03_Reader_Must.calls g s0_0 t135 t136 t139 11 t140 t141 w0 _ ?side1 ?side2 A39.out).mono ?_); (case side1 => repeat (first | (with_reducible first | exact HI0.out | apply IsS115.alloc | apply IsS115.drewN | apply IsS115.drew | apply IsS115.set_1 | apply IsS115.set_2 | refine IsS115.far ?_ NB0_123.out _ | refine IsS115.far ?_ NB0_124.out _ | refine IsS115.far ?_ NB0_133.out _) | exact HI0.out)); (case side2 => repeat (first | (with_reducible first | exact HB.out | apply below_alloc | apply pw_below_drewN | apply below_drew1 | refine below_set ?_ (IsS115.ge HI0.out) | refine below_set ?_ GE123.out | refine below_set ?_ GE124.out | refine below_set ?_ GE133.out) | exact HB.out)); rintro e w55 ⟨rfl, hi, hb, hk⟩; refine ⟨_, rfl, ?_⟩; have n0_ := Aside0.mk (KeepBut.blk hk (g' := gb123) (o := .cells #[.int .u64 a3_0, .string a3_1] 47 (0, 0)) (by (with_reducible repeat (first | refine blk_drewN ?_ _ | refine blk_drew ?_ | refine blk_alloc ?_ _)); exact BK123.out) NB123_0.out (by simp)); have n1_ := Aside0.mk (KeepBut.blk hk (g' := gb124) (o := .cells #[.int .u64 0, .string (⟨#[]⟩ : ByteArray)] 47 (0, 0)) (by (with_reducible repeat (first | refine blk_drewN ?_ _ | refine blk_drew ?_ | refine blk_alloc ?_ _)); exact BK124.out) NB124_0.out (by simp)); have n2_ := Aside0.mk (Kd.R_mono (Kd.R_keep (IsS115.apart (show IsS115 w0 _ g s0_0 t135 t136 from by repeat (first | (with_reducible first | exact HI0.out | apply IsS115.alloc | apply IsS115.drewN | apply IsS115.drew | apply IsS115.set_1 | apply IsS115.set_2 | refine IsS115.far ?_ NB0_123.out _ | refine IsS115.far ?_ NB0_124.out _ | refine IsS115.far ?_ NB0_133.out _) | exact HI0.out)) (by (with_reducible repeat (first | apply Kd.R_alloc | apply Kd.R_drewN | apply Kd.R_drew)); exact HO130.out) (by decide)) hk (fun _ h => h.2)) (fun _ h => h.1)); have n3_ := Aside0.mk (KeepBut.blk hk (g' := gb133) (o := .cells #[.int .u64 0, .string ((a3_1.extract 0 ((ji12) : Int).toNat) ++ (strOfNums t128))] 47 (0, 0)) (by (with_reducible repeat (first | refine blk_drewN ?_ _ | refine blk_drew ?_ | refine blk_alloc ?_ _)); exact BK133.out) NB133_0.out (by simp)); have n4_ := Aside0.mk (KeepBut.trans (by repeat (first | (with_reducible first | exact HK.out | apply KeepBut.set_ | apply keep_drewN | apply keep_drew | apply keep_alloc | refine keep_far ?_ GW123.out _ | refine keep_far ?_ GW124.out _ | refine keep_far ?_ GW133.out _) | exact HK.out)) hk (.inl rfl)); have n5_ := Aside0.mk (hb); have n6_ := Aside0.mk (hi); clear BK123; clear BK124; clear HO130; clear BK133; clear HK; clear HB; clear HI0; have BK123 := n0_; have BK124 := n1_; have HO130 := n2_; have BK133 := n3_; have HK := n4_; have HB := n5_; have HI0 := n6_; clear n0_ n1_ n2_ n3_ n4_ n5_ n6_; (try clear hb); (try clear hb2); (try clear hk); (try clear hi); have hcz56_0 : w55.cell? ⟨gb133, 0, none⟩ = some (.int .u64 0) := (blk_cell BK133.out 0).trans rfl; have hcz56_1 : w55.cell? ⟨gb133, 1, none⟩ = some (.string ((a3_1.extract 0 ((ji12) : Int).toNat) ++ (strOfNums t128))) := (blk_cell BK133.out 1).trans rfl; have hfz56_0 := blk_frozen BK133.out 0; have hfz56_1 := blk_frozen BK133.out 1; have hnb57 := NB124_0.out; have hnc57 := NB0_124.out; have hcz58_0 : w55.cell? ⟨gb124, 0, none⟩ = some (.int .u64 0) := (blk_cell BK124.out 0).trans rfl; have hcz58_1 : w55.cell? ⟨gb124, 1, none⟩ = some (.string (⟨#[]⟩ : ByteArray)) := (blk_cell BK124.out 1).trans rfl; have hfz58_0 := blk_frozen BK124.out 0; have hfz58_1 := blk_frozen BK124.out 1))
                refine bodyPost_ret (results_cell_row rfl _ _ gb124 47 #[.int .u64 0, .string ((a3_1.extract 0 ((ji12) : Int).toNat) ++ (strOfNums t128))] (0, 0) _ rfl (by (with_reducible repeat (first | refine blk_drewN ?_ _ | refine blk_drew ?_ | refine blk_alloc ?_ _)); refine blk_put (cs := #[.int .u64 0, .string (⟨#[]⟩ : ByteArray)]) ?_ 1 _ rfl; (with_reducible repeat (first | refine blk_drewN ?_ _ | refine blk_drew ?_ | refine blk_alloc ?_ _)); refine blk_put (cs := #[.int .u64 0, .string (⟨#[]⟩ : ByteArray)]) ?_ 0 _ rfl; (with_reducible repeat (first | refine blk_drewN ?_ _ | refine blk_drew ?_ | refine blk_alloc ?_ _)); exact BK124.out) Tryd.underlying47 rfl (by kernel_rfl)) rfl ?_
                exact ⟨by first | rfl | (simp [errW_none, errW_some] <;> rfl) | (simp only [← hji12]; first | rfl | (simp [errW_none, errW_some] <;> rfl)) | (simp [*, errW_none, errW_some] <;> rfl), by repeat (first | (with_reducible first | exact HI0.out | apply IsS115.alloc | apply IsS115.drewN | apply IsS115.drew | apply IsS115.set_1 | apply IsS115.set_2 | refine IsS115.far ?_ NB0_123.out _ | refine IsS115.far ?_ NB0_124.out _ | refine IsS115.far ?_ NB0_133.out _) | exact HI0.out), by repeat (first | (with_reducible first | exact HB.out | apply below_alloc | apply pw_below_drewN | apply below_drew1 | refine below_set ?_ (IsS115.ge HI0.out) | refine below_set ?_ GE123.out | refine below_set ?_ GE124.out | refine below_set ?_ GE133.out) | exact HB.out), by repeat (first | (with_reducible first | exact HK.out | apply KeepBut.set_ | apply keep_drewN | apply keep_drew | apply keep_alloc | refine keep_far ?_ GW123.out _ | refine keep_far ?_ GW124.out _ | refine keep_far ?_ GW133.out _) | exact HK.out)⟩
            · rw [if_neg c15] at H
              exact absurd H (by simp)
          · rw [if_neg c14] at H
            exact absurd H (by simp)
        · rw [if_neg c13] at H
          exact absurd H (by simp)
      · replace c9 := Bool.eq_false_iff.mpr c9
        subst c9
        have H1 : (if a2 = 0 then (deckleref09_one.j1 kj4 (a1 != 0) s0_0 s0_1 s0_2 a3_0 a3_1) else (deckleref09_one.j1 kj4 false s0_0 s0_1 s0_2 a3_0 a3_1)) = some (r1, r2, r3, r4) := by rw [if_neg (show ¬ (false = true) by decide)] at H; exact H
        clear H
        have H := H1
        clear H1
        have HC59 := Aside0.mk H
        clear H
        go_upto_region 8 with (fail)
        go_cut [61] (fun v61 wc => ∃ (kq : Nat) (x61_58 : Bool), v61 = .bool x61_58 ∧ Aside0 (deckleref09_one.j1 kq x61_58 s0_0 s0_1 s0_2 a3_0 a3_1 = some (r1, r2, r3, r4)) ∧ Aside0 (kq ≤ kj4) ∧ Aside0 (wc.heap[gb123]? = some (.cells #[.int .u64 a3_0, .string a3_1] 47 (0, 0))) ∧ Aside0 (wc.heap[gb124]? = some (.cells #[.int .u64 0, .string (⟨#[]⟩ : ByteArray)] 47 (0, 0))) ∧ Aside0 (IsS115 w0 wc g s0_0 s0_1 s0_2) ∧ Aside0 (KeepBut w wc g none) ∧ Aside0 (Below w0.heap.size w0 wc))
        case first =>
          have H := HC59.out
          clear HC59
          by_cases c60 : a2 = 0
          · rw [if_pos c60] at H
            have c60b0 : (a2 == 0) = true := beq_iff_eq.mpr c60
            have c60b1 : (a2 != 0) = false := bne_eq_false_iff_eq.mpr c60
            clear c60
            (first | rw [c60b0] | (simp only [i64_w, i32_w]; rw [c60b0]) | skip)
            have H' := Aside0.mk H
            clear H
            go_wp2
            go_meet
            case rel => exact ⟨_, ((a1 != 0)), (by first | rfl | (simp; done) | (simp [*]; done)), H', ⟨by have := HJ4.out; first | omega | exact Nat.le_refl _⟩, ⟨by (with_reducible repeat (first | refine blk_drewN ?_ _ | refine blk_drew ?_ | refine blk_alloc ?_ _)); exact BK123.out⟩, ⟨by (with_reducible repeat (first | refine blk_drewN ?_ _ | refine blk_drew ?_ | refine blk_alloc ?_ _)); exact BK124.out⟩, ⟨by repeat (first | (with_reducible first | exact HI0.out | apply IsS115.alloc | apply IsS115.drewN | apply IsS115.drew | apply IsS115.set_1 | apply IsS115.set_2 | refine IsS115.far ?_ NB0_123.out _ | refine IsS115.far ?_ NB0_124.out _) | exact HI0.out)⟩, ⟨by repeat (first | (with_reducible first | exact HK.out | apply KeepBut.set_ | apply keep_drewN | apply keep_drew | apply keep_alloc | refine keep_far ?_ GW123.out _ | refine keep_far ?_ GW124.out _) | exact HK.out)⟩, ⟨by repeat (first | (with_reducible first | exact HB.out | apply below_alloc | apply pw_below_drewN | apply below_drew1 | refine below_set ?_ (IsS115.ge HI0.out) | refine below_set ?_ GE123.out | refine below_set ?_ GE124.out) | exact HB.out)⟩⟩
          · rw [if_neg c60] at H
            have c60b0 : (a2 == 0) = false := beq_eq_false_iff_ne.mpr c60
            have c60b1 : (a2 != 0) = true := bne_iff_ne.mpr c60
            (first | rw [c60b0] | (simp only [i64_w, i32_w]; rw [c60b0]) | skip)
            have H' := Aside0.mk H
            clear H
            go_wp2
            go_meet
            case rel => exact ⟨_, (false), (by first | rfl | (simp; done) | (simp [*]; done)), H', ⟨by have := HJ4.out; first | omega | exact Nat.le_refl _⟩, ⟨by (with_reducible repeat (first | refine blk_drewN ?_ _ | refine blk_drew ?_ | refine blk_alloc ?_ _)); exact BK123.out⟩, ⟨by (with_reducible repeat (first | refine blk_drewN ?_ _ | refine blk_drew ?_ | refine blk_alloc ?_ _)); exact BK124.out⟩, ⟨by repeat (first | (with_reducible first | exact HI0.out | apply IsS115.alloc | apply IsS115.drewN | apply IsS115.drew | apply IsS115.set_1 | apply IsS115.set_2 | refine IsS115.far ?_ NB0_123.out _ | refine IsS115.far ?_ NB0_124.out _) | exact HI0.out)⟩, ⟨by repeat (first | (with_reducible first | exact HK.out | apply KeepBut.set_ | apply keep_drewN | apply keep_drew | apply keep_alloc | refine keep_far ?_ GW123.out _ | refine keep_far ?_ GW124.out _) | exact HK.out)⟩, ⟨by repeat (first | (with_reducible first | exact HB.out | apply below_alloc | apply pw_below_drewN | apply below_drew1 | refine below_set ?_ (IsS115.ge HI0.out) | refine below_set ?_ GE123.out | refine below_set ?_ GE124.out) | exact HB.out)⟩⟩
        case rest =>
          clear HC59
          try clear c1
          try clear c2
          try clear p2
          try clear hcv2
          try clear c3
          try clear c4
          try clear hcv4
          try clear c5
          try clear c6
          try clear p6
          try clear c8
          try clear c8b0
          try clear c8b1
          try clear c9
          try clear c11
          try clear c12
          try clear c13
          try clear c13b0
          try clear c13b1
          try clear c14
          try clear c14b0
          try clear c14b1
          try clear c15
          try clear c15b0
          try clear c15b1
          try clear c15b2
          try clear c18
          try clear c18b0
          try clear c18b1
          try clear c20
          try clear c21
          try clear hcv25
          try clear c28
          try clear c29
          try clear c30
          try clear c33
          try clear c36
          try clear c40
          try clear c41
          try clear hcv45
          try clear c48
          try clear c49
          try clear c50
          try clear c57
          try clear c60
          try clear c60b0
          try clear c60b1
          try clear hcz22_0
          try clear hcz22_1
          try clear hcz26_0
          try clear hcz26_1
          try clear hcz31_0
          try clear hcz31_1
          try clear hcz32_0
          try clear hcz32_1
          try clear hcz35_0
          try clear hcz35_1
          try clear hcz37_0
          try clear hcz37_1
          try clear hcz42_0
          try clear hcz42_1
          try clear hcz46_0
          try clear hcz46_1
          try clear hcz51_0
          try clear hcz51_1
          try clear hcz52_0
          try clear hcz52_1
          try clear hcz54_0
          try clear hcz54_1
          try clear hcz56_0
          try clear hcz56_1
          try clear hcz58_0
          try clear hcz58_1
          try clear hfz22_0
          try clear hfz22_1
          try clear hfz26_0
          try clear hfz26_1
          try clear hfz31_0
          try clear hfz31_1
          try clear hfz32_0
          try clear hfz32_1
          try clear hfz35_0
          try clear hfz35_1
          try clear hfz37_0
          try clear hfz37_1
          try clear hfz42_0
          try clear hfz42_1
          try clear hfz46_0
          try clear hfz46_1
          try clear hfz51_0
          try clear hfz51_1
          try clear hfz52_0
          try clear hfz52_1
          try clear hfz54_0
          try clear hfz54_1
          try clear hfz56_0
          try clear hfz56_1
          try clear hfz58_0
          try clear hfz58_1
          try clear p2
          obtain ⟨kq, x61_58, rfl, HA, HJ58, BK123, BK124, HI0, HK, HB⟩ := hcut
          cases kq with
          | zero => exact absurd HA.out (by simp [deckleref09_one.j1])
          | succ kj58 =>
            have H := HA.out
            clear HA
            simp only [deckleref09_one.j1] at H
            by_cases c61 : x61_58 = true
            · subst c61
              have H1 : ((deckleref03_Reader_Uint.f kj58 s0_0 s0_1 s0_2 18446744073709551615).bind fun bt142 => (some (bt142.1, (⟨#[]⟩ : ByteArray), bt142.2.1, bt142.2.2))) = some (r1, r2, r3, r4) := by rw [if_pos rfl] at H; exact H
              clear H
              have H := H1
              clear H1
              replace H := Option.bind_eq_some_iff.mp H
              obtain ⟨⟨t142, t143, t144⟩, A620, H⟩ := H
              replace H : (some (t142, (⟨#[]⟩ : ByteArray), t143, t144)) = some (r1, r2, r3, r4) := H
              have A62 := Aside0.mk A620
              clear A620
              simp only [Option.some.injEq, Prod.mk.injEq] at H
              obtain ⟨rfl, rfl, rfl, rfl⟩ := H
              go_wp2_with (first | ((with_reducible refine gate_callee (f := 137) rfl ?_); refine goesL_ (some 63) rfl rfl Tryd.func137 (by kernel_rfl) rfl #[.pointer (some ⟨g, 0, none⟩), .int .u64 18446744073709551615] rfl (by (try simp only [List.map_toArray, List.map_cons, List.map_nil]); first | done | rfl | (simp only [List.length_drop, List.length_take]; rfl)) ?_; (with_reducible refine (deckleref03_Reader_Uint.calls kj58 g s0_0 s0_1 s0_2 18446744073709551615 t142 t143 t144 w0 _ ?side1 ?side2 A62.out).mono ?_); (case side1 => repeat (first | (with_reducible first | exact HI0.out | apply IsS115.alloc | apply IsS115.drewN | apply IsS115.drew | apply IsS115.set_1 | apply IsS115.set_2 | refine IsS115.far ?_ NB0_123.out _ | refine IsS115.far ?_ NB0_124.out _) | exact HI0.out)); (case side2 => repeat (first | (with_reducible first | exact HB.out | apply below_alloc | apply pw_below_drewN | apply below_drew1 | refine below_set ?_ (IsS115.ge HI0.out) | refine below_set ?_ GE123.out | refine below_set ?_ GE124.out) | exact HB.out)); rintro e w63 ⟨rfl, hi, hb, hk⟩; refine ⟨_, rfl, ?_⟩; have n0_ := Aside0.mk (KeepBut.blk hk (g' := gb123) (o := .cells #[.int .u64 a3_0, .string a3_1] 47 (0, 0)) (by (with_reducible repeat (first | refine blk_drewN ?_ _ | refine blk_drew ?_ | refine blk_alloc ?_ _)); exact BK123.out) NB123_0.out (by simp)); have n1_ := Aside0.mk (KeepBut.blk hk (g' := gb124) (o := .cells #[.int .u64 0, .string (⟨#[]⟩ : ByteArray)] 47 (0, 0)) (by (with_reducible repeat (first | refine blk_drewN ?_ _ | refine blk_drew ?_ | refine blk_alloc ?_ _)); exact BK124.out) NB124_0.out (by simp)); have n2_ := Aside0.mk (KeepBut.trans (by repeat (first | (with_reducible first | exact HK.out | apply KeepBut.set_ | apply keep_drewN | apply keep_drew | apply keep_alloc | refine keep_far ?_ GW123.out _ | refine keep_far ?_ GW124.out _) | exact HK.out)) hk (.inl rfl)); have n3_ := Aside0.mk (hb); have n4_ := Aside0.mk (hi); clear BK123; clear BK124; clear HK; clear HB; clear HI0; have BK123 := n0_; have BK124 := n1_; have HK := n2_; have HB := n3_; have HI0 := n4_; clear n0_ n1_ n2_ n3_ n4_; (try clear hb); (try clear hb2); (try clear hk); (try clear hi); have hnb64 := NB124_123.out; have hnc64 := NB123_124.out; have hnb65 := NB124_0.out; have hnc65 := NB0_124.out; have hcz66_0 : w63.cell? ⟨gb124, 0, none⟩ = some (.int .u64 0) := (blk_cell BK124.out 0).trans rfl; have hcz66_1 : w63.cell? ⟨gb124, 1, none⟩ = some (.string (⟨#[]⟩ : ByteArray)) := (blk_cell BK124.out 1).trans rfl; have hfz66_0 := blk_frozen BK124.out 0; have hfz66_1 := blk_frozen BK124.out 1))
              refine bodyPost_ret (results_cell_row rfl _ _ gb124 47 #[.int .u64 t142, .string (⟨#[]⟩ : ByteArray)] (0, 0) _ rfl (by (with_reducible repeat (first | refine blk_drewN ?_ _ | refine blk_drew ?_ | refine blk_alloc ?_ _)); refine blk_put (cs := #[.int .u64 t142, .string (⟨#[]⟩ : ByteArray)]) ?_ 1 _ rfl; (with_reducible repeat (first | refine blk_drewN ?_ _ | refine blk_drew ?_ | refine blk_alloc ?_ _)); refine blk_put (cs := #[.int .u64 0, .string (⟨#[]⟩ : ByteArray)]) ?_ 0 _ rfl; (with_reducible repeat (first | refine blk_drewN ?_ _ | refine blk_drew ?_ | refine blk_alloc ?_ _)); exact BK124.out) Tryd.underlying47 rfl (by kernel_rfl)) rfl ?_
              exact ⟨by first | rfl | (simp [errW_none, errW_some] <;> rfl) | (simp [*, errW_none, errW_some] <;> rfl), by repeat (first | (with_reducible first | exact HI0.out | apply IsS115.alloc | apply IsS115.drewN | apply IsS115.drew | apply IsS115.set_1 | apply IsS115.set_2 | refine IsS115.far ?_ NB0_123.out _ | refine IsS115.far ?_ NB0_124.out _) | exact HI0.out), by repeat (first | (with_reducible first | exact HB.out | apply below_alloc | apply pw_below_drewN | apply below_drew1 | refine below_set ?_ (IsS115.ge HI0.out) | refine below_set ?_ GE123.out | refine below_set ?_ GE124.out) | exact HB.out), by repeat (first | (with_reducible first | exact HK.out | apply KeepBut.set_ | apply keep_drewN | apply keep_drew | apply keep_alloc | refine keep_far ?_ GW123.out _ | refine keep_far ?_ GW124.out _) | exact HK.out)⟩
            · replace c61 := Bool.eq_false_iff.mpr c61
              subst c61
              have H1 : ((deckleref03_Reader_Int.f kj58 s0_0 s0_1 s0_2).bind fun bt145 => (some (IntKind.u64.wrap (a3_0 + (IntKind.u64.wrap (bt145.1))), (⟨#[]⟩ : ByteArray), bt145.2.1, bt145.2.2))) = some (r1, r2, r3, r4) := by rw [if_neg (show ¬ (false = true) by decide)] at H; exact H
              clear H
              have H := H1
              clear H1
              replace H := Option.bind_eq_some_iff.mp H
              obtain ⟨⟨t145, t146, t147⟩, A670, H⟩ := H
              replace H : (some (IntKind.u64.wrap (a3_0 + (IntKind.u64.wrap (t145))), (⟨#[]⟩ : ByteArray), t146, t147)) = some (r1, r2, r3, r4) := H
              have A67 := Aside0.mk A670
              clear A670
              simp only [Option.some.injEq, Prod.mk.injEq] at H
              obtain ⟨rfl, rfl, rfl, rfl⟩ := H
              try go_wp2
              have n0_ := Aside0.mk (blk_drew BK123.out)
              have n1_ := Aside0.mk (blk_drew BK124.out)
              have n2_ := Aside0.mk (IsS115.drew HI0.out)
              have n3_ := Aside0.mk (keep_drew HK.out)
              have n4_ := Aside0.mk (below_drew1 HB.out)
              clear BK123
              clear BK124
              clear HI0
              clear HK
              clear HB
              have BK123 := n0_
              have BK124 := n1_
              have HI0 := n2_
              have HK := n3_
              have HB := n4_
              clear n0_ n1_ n2_ n3_ n4_
              refine start_ (n := 8) (S := fun w' => w'.cell? ⟨gb123, 0, none⟩ = some (.int .u64 a3_0) ∧ w'.cell? ⟨gb123, 1, none⟩ = some (.string a3_1)) (ds := []) #[false, false, false, false, false, false, false, false] (by kernel_rfl) rfl rfl ⟨(blk_cell BK123.out 0).trans rfl, (blk_cell BK123.out 1).trans rfl⟩ (fun hHeld => ?_); refine with_tabW deckleref09_one.tab10 deckleref09_one.bits10 (fun HT_ HW_ => ?_)
              generalize wc.drew = w68 at BK123 BK124 HI0 HK HB hHeld ⊢
              refine pure_ (i := 0) (N := some 65) (v := ?_) (a' := ?_) #[true, false, false, false, false, false, false, false] rfl rfl (any_of HT_.out (by kernel_rfl)) (fun _ _ _ h => h) (Or.inl ⟨by rfl, ?_⟩) ?_ ?_
              rotate_left
              · intro w'
                go_simp
                with_reducible rfl
              rotate_left
              · simp only [Act.put, List.setIfInBounds_toArray, List.set_cons_zero, List.set_cons_succ, i64_w, i32_w]
                rfl
              refine pure_ (i := 2) (N := some 67) (v := ?_) (a' := ?_) #[true, false, true, false, false, false, false, false] rfl rfl (any_of HT_.out (by kernel_rfl)) (fun _ _ _ h => h) (Or.inl ⟨by rfl, ?_⟩) ?_ ?_
              rotate_left
              · intro w'
                go_simp
                with_reducible rfl
              rotate_left
              · simp only [Act.put, List.setIfInBounds_toArray, List.set_cons_zero, List.set_cons_succ, i64_w, i32_w]
                rfl
              refine take_ (i := 1) (N := some 66) (v := ?_) (a' := ?_) #[true, true, true, false, false, false, false, false] rfl rfl (take_ofW HT_.out HW_.out (by kernel_rfl)) (fun _ _ _ h => h) (Or.inl ⟨by rfl, ?_⟩) hHeld ?_ ?_
              rotate_left
              · rintro w' ⟨s0, s1⟩
                go_simp
                with_reducible rfl
              rotate_left
              · simp only [Act.put, List.setIfInBounds_toArray, List.set_cons_zero, List.set_cons_succ, i64_w, i32_w]
                rfl
              refine one_ (i := 3) (N := some 68) #[true, true, true, true, false, false, false, false] rfl rfl (one_of HT_.out (by kernel_rfl)) (by decide) (fun K hK => ?_)
              refine goes_ Tryd.func144 (by kernel_rfl) rfl #[.pointer (some ⟨g, 0, none⟩)] (by rfl) rfl rfl (by (try simp only [List.map_toArray, List.map_cons, List.map_nil]); first | done | rfl | (simp only [List.length_drop, List.length_take]; rfl)) ?_
              with_reducible refine (deckleref03_Reader_Int.calls kj58 g s0_0 s0_1 s0_2 t145 t146 t147 w0 _ ?side1 ?side2 A67.out).mono ?_
              (case side1 => repeat (first | (with_reducible first | exact HI0.out | apply IsS115.alloc | apply IsS115.drewN | apply IsS115.drew | apply IsS115.set_1 | apply IsS115.set_2 | refine IsS115.far ?_ NB0_123.out _ | refine IsS115.far ?_ NB0_124.out _) | exact HI0.out))
              (case side2 => repeat (first | (with_reducible first | exact HB.out | apply below_alloc | apply pw_below_drewN | apply below_drew1 | refine below_set ?_ (IsS115.ge HI0.out) | refine below_set ?_ GE123.out | refine below_set ?_ GE124.out) | exact HB.out))
              rintro e w69 ⟨rfl, hi, hb, hk⟩
              refine ⟨_, rfl, ?_⟩
              have n0_ := Aside0.mk (KeepBut.blk hk (g' := gb123) (o := .cells #[.int .u64 a3_0, .string a3_1] 47 (0, 0)) (by (with_reducible repeat (first | refine blk_drewN ?_ _ | refine blk_drew ?_ | refine blk_alloc ?_ _)); exact BK123.out) NB123_0.out (by simp))
              have n1_ := Aside0.mk (KeepBut.blk hk (g' := gb124) (o := .cells #[.int .u64 0, .string (⟨#[]⟩ : ByteArray)] 47 (0, 0)) (by (with_reducible repeat (first | refine blk_drewN ?_ _ | refine blk_drew ?_ | refine blk_alloc ?_ _)); exact BK124.out) NB124_0.out (by simp))
              have n2_ := Aside0.mk (KeepBut.trans (by repeat (first | (with_reducible first | exact HK.out | apply KeepBut.set_ | apply keep_drewN | apply keep_drew | apply keep_alloc | refine keep_far ?_ GW123.out _ | refine keep_far ?_ GW124.out _) | exact HK.out)) hk (.inl rfl))
              have n3_ := Aside0.mk (hb)
              have n4_ := Aside0.mk (hi)
              clear BK123
              clear BK124
              clear HK
              clear HB
              clear HI0
              have BK123 := n0_
              have BK124 := n1_
              have HK := n2_
              have HB := n3_
              have HI0 := n4_
              clear n0_ n1_ n2_ n3_ n4_
              (try clear hb)
              (try clear hb2)
              (try clear hk)
              (try clear hi)
              refine hK.out _ _ ⟨(blk_cell BK123.out 0).trans rfl, (blk_cell BK123.out 1).trans rfl⟩ (fun hHeld => ?_)
              clear hK K
              refine norm_ (a' := ?_) ?_ ?_
              rotate_left
              · show Act.put _ (some 68) _ = _
                simp only [Act.put, List.setIfInBounds_toArray, List.set_cons_zero, List.set_cons_succ, i64_w, i32_w]
                rfl
              refine pure_ (i := 4) (N := some 69) (v := ?_) (a' := ?_) #[true, true, true, true, true, false, false, false] rfl rfl (any_of HT_.out (by kernel_rfl)) (fun _ _ _ h => h) (Or.inl ⟨by rfl, ?_⟩) ?_ ?_
              rotate_left
              · intro w'
                go_simp
                with_reducible rfl
              rotate_left
              · simp only [Act.put, List.setIfInBounds_toArray, List.set_cons_zero, List.set_cons_succ, i64_w, i32_w]
                rfl
              refine pure_ (i := 5) (N := some 70) (v := ?_) (a' := ?_) #[true, true, true, true, true, true, false, false] rfl rfl (any_of HT_.out (by kernel_rfl)) (fun _ _ _ h => h) (Or.inl ⟨by rfl, ?_⟩) ?_ ?_
              rotate_left
              · intro w'
                go_simp
                with_reducible rfl
              rotate_left
              · simp only [Act.put, List.setIfInBounds_toArray, List.set_cons_zero, List.set_cons_succ, i64_w, i32_w]
                rfl
              refine pure_ (i := 6) (N := some 71) (v := ?_) (a' := ?_) #[true, true, true, true, true, true, true, false] rfl rfl (any_of HT_.out (by kernel_rfl)) (fun _ _ _ h => h) (Or.inl ⟨by rfl, ?_⟩) ?_ ?_
              rotate_left
              · intro w'
                go_simp
                with_reducible rfl
              rotate_left
              · simp only [Act.put, List.setIfInBounds_toArray, List.set_cons_zero, List.set_cons_succ, i64_w, i32_w]
                rfl
              refine one_ (i := 7) (N := none) #[true, true, true, true, true, true, true, true] rfl rfl (one_of HT_.out (by kernel_rfl)) (by decide) (fun K hK => ?_)
              have hs70 : w69.cell? ⟨gb124, 0, none⟩ = some (.int .u64 0) := (blk_cell BK124.out 0).trans rfl
              have hfs70 := blk_frozen BK124.out 0
              have hns70_0 := NB123_124.out
              have hms70_0 := NB124_123.out
              have hs71 : w69.cell? ⟨gb124, 1, none⟩ = some (.string (⟨#[]⟩ : ByteArray)) := (blk_cell BK124.out 1).trans rfl
              have hfs71 := blk_frozen BK124.out 1
              have hns71_0 := NB123_124.out
              have hms71_0 := NB124_123.out
              refine skip_ (w1 := ?_) (by rfl) rfl ?_ ?_
              rotate_left
              · go_simp
                rfl
              refine hK.out _ _ ⟨((cell_far (p := ⟨gb124, _, none⟩) NB123_124.out _).trans (((cell_far (p := ⟨gb124, _, none⟩) NB123_124.out _).trans (hHeld.1)))), ((cell_far (p := ⟨gb124, _, none⟩) NB123_124.out _).trans (((cell_far (p := ⟨gb124, _, none⟩) NB123_124.out _).trans (hHeld.2))))⟩ (fun hHeld => ?_)
              clear hK K
              refine done_ (done_of HT_.out (by kernel_rfl)) ?_
              try go_wp2
              refine bodyPost_ret (results_cell_row rfl _ _ gb124 47 #[.int .u64 (IntKind.u64.wrap (a3_0 + (IntKind.u64.wrap (t145)))), .string (⟨#[]⟩ : ByteArray)] (0, 0) _ rfl (by (with_reducible repeat (first | refine blk_drewN ?_ _ | refine blk_drew ?_ | refine blk_alloc ?_ _)); refine blk_put (cs := #[.int .u64 (IntKind.u64.wrap (a3_0 + (IntKind.u64.wrap (t145)))), .string (⟨#[]⟩ : ByteArray)]) ?_ 1 _ rfl; (with_reducible repeat (first | refine blk_drewN ?_ _ | refine blk_drew ?_ | refine blk_alloc ?_ _)); refine blk_put (cs := #[.int .u64 0, .string (⟨#[]⟩ : ByteArray)]) ?_ 0 _ rfl; (with_reducible repeat (first | refine blk_drewN ?_ _ | refine blk_drew ?_ | refine blk_alloc ?_ _)); exact BK124.out) Tryd.underlying47 rfl (by kernel_rfl)) rfl ?_
              exact ⟨by first | rfl | (simp [errW_none, errW_some] <;> rfl) | (simp [*, errW_none, errW_some] <;> rfl), by repeat (first | (with_reducible first | exact HI0.out | apply IsS115.alloc | apply IsS115.drewN | apply IsS115.drew | apply IsS115.set_1 | apply IsS115.set_2 | refine IsS115.far ?_ NB0_123.out _ | refine IsS115.far ?_ NB0_124.out _) | exact HI0.out), by repeat (first | (with_reducible first | exact HB.out | apply below_alloc | apply pw_below_drewN | apply below_drew1 | refine below_set ?_ (IsS115.ge HI0.out) | refine below_set ?_ GE123.out | refine below_set ?_ GE124.out) | exact HB.out), by repeat (first | (with_reducible first | exact HK.out | apply KeepBut.set_ | apply keep_drewN | apply keep_drew | apply keep_alloc | refine keep_far ?_ GW123.out _ | refine keep_far ?_ GW124.out _) | exact HK.out)⟩

/-! ### deckleref06_Same: function 26 -/
def deckleref06_Same.l0 : Nat → List (S47) → List (S47) → Int → Option (Bool)
  | 0, _, _, _ => none
  | k + 1, x0, x1, x5 => if x5 < (x0.length : Int) then (if 0 ≤ x5 then (if x5 < (x1.length : Int) then (if (!(((rd_T47 x0 x5).f0) == ((rd_T47 x1 x5).f0)) || (!((((rd_T47 x0 x5).f1).toList) == (((rd_T47 x1 x5).f1).toList)))) = true then (some false) else (deckleref06_Same.l0 k x0 x1 (wrap64 (x5 + 1)))) else (none)) else (none)) else (some true)
def deckleref06_Same.f (k : Nat) (l0 : List (S47)) (l1 : List (S47)) : Option (Bool) := if (l0.length : Int) = (l1.length : Int) then (deckleref06_Same.l0 k l0 l1 0) else (some false)
theorem deckleref06_Same.mono_l : ∀ k, (∀ y0 y1 y2, LeO (deckleref06_Same.l0 k y0 y1 y2) (deckleref06_Same.l0 (k + 1) y0 y1 y2))
  | 0 => fun _ _ _ r h => by simp [deckleref06_Same.l0] at h
  | k + 1 => by
    have ih0 := deckleref06_Same.mono_l k
    · intro y0 y1 y2
      unfold deckleref06_Same.l0
      repeat' first
      | (with_reducible exact ih0 _ _ _)
      | (with_reducible exact LeO.refl _)
      | (with_reducible exact LeO.none _)
      | (with_reducible refine LeO.ite ?_ ?_)
      | (with_reducible refine LeO.bind ?_ (fun _ => ?_))
      | exact ih0 _ _ _
      | exact LeO.none _
      | refine LeO.ite ?_ ?_
      | refine LeO.bind ?_ (fun _ => ?_)
theorem deckleref06_Same.mono : ∀ a0 a1 k, LeO (deckleref06_Same.f k a0 a1) (deckleref06_Same.f (k + 1) a0 a1) := by
  intro a0 a1 k
  have ih0 := deckleref06_Same.mono_l k
  unfold deckleref06_Same.f
  repeat' first
      | (with_reducible exact ih0 _ _ _)
      | (with_reducible exact LeO.refl _)
      | (with_reducible exact LeO.none _)
      | (with_reducible refine LeO.ite ?_ ?_)
      | (with_reducible refine LeO.bind ?_ (fun _ => ?_))
      | exact ih0 _ _ _
      | exact LeO.none _
      | refine LeO.ite ?_ ?_
      | refine LeO.bind ?_ (fun _ => ?_)
set_option maxHeartbeats 8000000 in
set_option maxRecDepth 100000 in
theorem deckleref06_Same.calls (k : Nat) (A0 : Option Addr) (c0 : Nat) (l0 : List (S47)) (A1 : Option Addr) (c1 : Nat) (l1 : List (S47)) (r : Bool) (w : World) (hr0 : Kd.C k47 w A0 l0.length l0) (hc0 : l0.length ≤ c0) (hr1 : Kd.C k47 w A1 l1.length l1) (hc1 : l1.length ≤ c1) (h : deckleref06_Same.f k l0 l1 = some r) :
    Calls Tryd.prog 26 #[.slice A0 l0.length c0, .slice A1 l1.length c1] w fun e w' => e = .returned (.bool r) ∧ Drawn0 w w' := by
  have hu47 := Tryd.underlying47
  have HR0 := Aside0.mk hr0
  have HC0 := Aside0.mk hc0
  clear hr0 hc0
  have HR1 := Aside0.mk hr1
  have HC1 := Aside0.mk hc1
  clear hr1 hc1
  have H : (if (l0.length : Int) = (l1.length : Int) then (deckleref06_Same.l0 k l0 l1 0) else (some false)) = some r := h
  clear h
  by_cases c3 : (l0.length : Int) = (l1.length : Int)
  · rw [if_pos c3] at H
    have c3b0 : ((l0.length : Int) == (l1.length : Int)) = true := beq_iff_eq.mpr c3
    have c3b1 : ((l0.length : Int) != (l1.length : Int)) = false := bne_eq_false_iff_eq.mpr c3
    have c3b2 : (l0.length == l1.length) = true := by first | simpa using c3 | (simp at c3 ⊢; omega)
    clear c3
    have H' := Aside0.mk H
    clear H
    go_enter Tryd.func26, Tryd.ntmps26
    go_wp2
    repeat (go_quiet (fail); try go_wp2)
    go_loopg [5] k (fun kq v5 w' => ∃ (x5_1 : Int), v5 = .int .i64 x5_1 ∧ Aside0 (deckleref06_Same.l0 kq l0 l1 x5_1 = some r) ∧ Aside0 (kq ≤ k) ∧ Drawn0 w w')
    case atStart => exact ⟨(0), (by first | rfl | (simp; done) | (simp [*]; done)), H', ⟨Nat.le_refl _⟩, by repeat (first | exact Drawn0.refl _ | apply Drawn0.step)⟩
    case round =>
      clear H'
      try clear c1
      try clear c2
      try clear p2
      try clear c3
      try clear c3b0
      try clear c3b1
      try clear c3b2
      obtain ⟨x5_1, rfl, HA, HK1, ⟨m1, rfl⟩⟩ := hrel
      cases gk with
      | zero => exact absurd HA.out (by simp [deckleref06_Same.l0])
      | succ k1 =>
        have H := HA.out
        clear HA
        simp only [deckleref06_Same.l0] at H
        by_cases c4 : x5_1 < (l0.length : Int)
        · rw [if_pos c4] at H
          have c4b0 : decide (x5_1 < (l0.length : Int)) = true := decide_eq_true c4
          clear c4
          by_cases c5 : 0 ≤ x5_1
          · rw [if_pos c5] at H
            have c5b0 : decide (0 ≤ x5_1) = true := decide_eq_true c5
            clear c5
            by_cases c6 : x5_1 < (l1.length : Int)
            · rw [if_pos c6] at H
              have c6b0 : decide (x5_1 < (l1.length : Int)) = true := decide_eq_true c6
              clear c6
              by_cases c7 : (!(((rd_T47 l0 x5_1).f0) == ((rd_T47 l1 x5_1).f0)) || (!((((rd_T47 l0 x5_1).f1).toList) == (((rd_T47 l1 x5_1).f1).toList)))) = true
              · rw [if_pos c7] at H
                have c7b0 : (!(((rd_T47 l0 x5_1).f0) == ((rd_T47 l1 x5_1).f0)) || (!((((rd_T47 l0 x5_1).f1).toList) == (((rd_T47 l1 x5_1).f1).toList)))) = true := c7
                clear c7
                obtain rfl := Option.some.inj H
                have p148 : 0 ≤ (x5_1 : Int) := of_decide_eq_true (by first | (with_reducible assumption) | assumption)
                have q148 : x5_1 < (l0.length : Int) := of_decide_eq_true (by first | (with_reducible assumption) | assumption)
                obtain ⟨ad148, e148, hx148_0, hx148_1⟩ := at_T47 HR0.out x5_1 p148 q148
                cases e148
                replace p148 := eq_true p148
                replace q148 := eq_true q148
                have p149 : 0 ≤ (x5_1 : Int) := of_decide_eq_true (by first | (with_reducible assumption) | assumption)
                have q149 : x5_1 < (l1.length : Int) := of_decide_eq_true (by first | (with_reducible assumption) | assumption)
                obtain ⟨ad149, e149, hx149_0, hx149_1⟩ := at_T47 HR1.out x5_1 p149 q149
                cases e149
                replace p149 := eq_true p149
                replace q149 := eq_true q149
                go_wp2
                repeat (go_quiet (fail); try go_wp2)
                go_ret
                exact ⟨by first | rfl | (simp; done) | (simp [*]; done), by repeat (first | exact Drawn0.refl _ | apply Drawn0.step)⟩
              · rw [if_neg c7] at H
                have c7b0 : (!(((rd_T47 l0 x5_1).f0) == ((rd_T47 l1 x5_1).f0)) || (!((((rd_T47 l0 x5_1).f1).toList) == (((rd_T47 l1 x5_1).f1).toList)))) = false := by simpa using c7
                clear c7
                have H' := Aside0.mk H
                clear H
                have p148 : 0 ≤ (x5_1 : Int) := of_decide_eq_true (by first | (with_reducible assumption) | assumption)
                have q148 : x5_1 < (l0.length : Int) := of_decide_eq_true (by first | (with_reducible assumption) | assumption)
                obtain ⟨ad148, e148, hx148_0, hx148_1⟩ := at_T47 HR0.out x5_1 p148 q148
                cases e148
                replace p148 := eq_true p148
                replace q148 := eq_true q148
                have p149 : 0 ≤ (x5_1 : Int) := of_decide_eq_true (by first | (with_reducible assumption) | assumption)
                have q149 : x5_1 < (l1.length : Int) := of_decide_eq_true (by first | (with_reducible assumption) | assumption)
                obtain ⟨ad149, e149, hx149_0, hx149_1⟩ := at_T47 HR1.out x5_1 p149 q149
                cases e149
                replace p149 := eq_true p149
                replace q149 := eq_true q149
                go_wp2
                repeat (go_quiet (fail); try go_wp2)
                go_roundg k1
                case measure => have := HK1.out; omega
                case rel => exact ⟨(wrap64 (x5_1 + 1)), (by first | rfl | (simp; done) | (simp [*]; done)), H', ⟨by have := HK1.out; omega⟩, by repeat (first | exact Drawn0.refl _ | apply Drawn0.step)⟩
            · rw [if_neg c6] at H
              exact absurd H (by simp)
          · rw [if_neg c5] at H
            exact absurd H (by simp)
        · rw [if_neg c4] at H
          have c4b0 : decide (x5_1 < (l0.length : Int)) = false := decide_eq_false c4
          clear c4
          obtain rfl := Option.some.inj H
          go_wp2
          repeat (go_quiet (fail); try go_wp2)
          go_ret
          exact ⟨by first | rfl | (simp; done) | (simp [*]; done), by repeat (first | exact Drawn0.refl _ | apply Drawn0.step)⟩
  · rw [if_neg c3] at H
    have c3b0 : ((l0.length : Int) == (l1.length : Int)) = false := beq_eq_false_iff_ne.mpr c3
    have c3b1 : ((l0.length : Int) != (l1.length : Int)) = true := bne_iff_ne.mpr c3
    have c3b2 : (l0.length == l1.length) = false := by first | simpa using c3 | (simp at c3 ⊢; omega)
    obtain rfl := Option.some.inj H
    go_enter Tryd.func26, Tryd.ntmps26
    go_wp2
    repeat (go_quiet (fail); try go_wp2)
    go_ret
    exact ⟨by first | rfl | (simp; done) | (simp [*]; done), by repeat (first | exact Drawn0.refl _ | apply Drawn0.step)⟩

/-! ### decklelaw09_great: function 21 -/
def decklelaw09_great.l0 : Nat → Int → List (S47) → Int → Int → Option (Bool)
  | 0, _, _, _, _ => none
  | k + 1, x3, x6, x7, x8 => if x8 < x7 then (if 0 ≤ x8 then (if x8 < (x6.length : Int) then (decklelaw09_great.l0 k (wrap64 (x3 + (wrap64 (1 + (((rd_T47 x6 x8).f1).size : Int))))) x6 x7 (wrap64 (x8 + 1))) else (none)) else (none)) else (some (decide (x3 > 5000)))
def decklelaw09_great.f (k : Nat) (l0 : List (S47)) : Option (Bool) := decklelaw09_great.l0 k 0 l0 (l0.length : Int) 0
theorem decklelaw09_great.mono_l : ∀ k, (∀ y0 y1 y2 y3, LeO (decklelaw09_great.l0 k y0 y1 y2 y3) (decklelaw09_great.l0 (k + 1) y0 y1 y2 y3))
  | 0 => fun _ _ _ _ r h => by simp [decklelaw09_great.l0] at h
  | k + 1 => by
    have ih0 := decklelaw09_great.mono_l k
    · intro y0 y1 y2 y3
      unfold decklelaw09_great.l0
      repeat' first
      | (with_reducible exact ih0 _ _ _ _)
      | (with_reducible exact LeO.refl _)
      | (with_reducible exact LeO.none _)
      | (with_reducible refine LeO.ite ?_ ?_)
      | (with_reducible refine LeO.bind ?_ (fun _ => ?_))
      | exact ih0 _ _ _ _
      | exact LeO.none _
      | refine LeO.ite ?_ ?_
      | refine LeO.bind ?_ (fun _ => ?_)
theorem decklelaw09_great.mono : ∀ a0 k, LeO (decklelaw09_great.f k a0) (decklelaw09_great.f (k + 1) a0) := by
  intro a0 k
  have ih0 := decklelaw09_great.mono_l k
  unfold decklelaw09_great.f
  repeat' first
      | (with_reducible exact ih0 _ _ _ _)
      | (with_reducible exact LeO.refl _)
      | (with_reducible exact LeO.none _)
      | (with_reducible refine LeO.ite ?_ ?_)
      | (with_reducible refine LeO.bind ?_ (fun _ => ?_))
      | exact ih0 _ _ _ _
      | exact LeO.none _
      | refine LeO.ite ?_ ?_
      | refine LeO.bind ?_ (fun _ => ?_)
set_option maxHeartbeats 8000000 in
set_option maxRecDepth 100000 in
theorem decklelaw09_great.calls (k : Nat) (A0 : Option Addr) (c0 : Nat) (l0 : List (S47)) (r : Bool) (w : World) (hr0 : Kd.C k47 w A0 l0.length l0) (hc0 : l0.length ≤ c0) (h : decklelaw09_great.f k l0 = some r) :
    Calls Tryd.prog 21 #[.slice A0 l0.length c0] w fun e w' => e = .returned (.bool r) ∧ Below w.heap.size w w' := by
  have hu47 := Tryd.underlying47
  have HR0 := Aside0.mk hr0
  have HC0 := Aside0.mk hc0
  clear hr0 hc0
  have HB := Aside0.mk (Below.refl w.heap.size w)
  have H : (decklelaw09_great.l0 k 0 l0 (l0.length : Int) 0) = some r := h
  clear h
  have H' := Aside0.mk H
  clear H
  go_enter Tryd.func21, Tryd.ntmps21
  go_wp2
  go_loopg [3, 8] k (fun kq v3 v8 w' => ∃ (x3_1 : Int) (x8_1 : Int), v3 = .int .i64 x3_1 ∧ v8 = .int .i64 x8_1 ∧ Aside0 (decklelaw09_great.l0 kq x3_1 l0 (l0.length : Int) x8_1 = some r) ∧ Aside0 (kq ≤ k) ∧ Aside0 (Below w.heap.size w w'))
  case atStart => exact ⟨(0), (0), (by first | rfl | (simp; done) | (simp [*]; done)), (by first | rfl | (simp; done) | (simp [*]; done)), H', ⟨Nat.le_refl _⟩, ⟨by repeat (first | (with_reducible first | exact HB.out | apply below_alloc | apply pw_below_drewN | apply below_drew1) | exact HB.out)⟩⟩
  case round =>
    clear H'
    obtain ⟨x3_1, x8_1, rfl, rfl, HA, HK1, HB⟩ := hrel
    cases gk with
    | zero => exact absurd HA.out (by simp [decklelaw09_great.l0])
    | succ k1 =>
      have H := HA.out
      clear HA
      simp only [decklelaw09_great.l0] at H
      by_cases c2 : x8_1 < (l0.length : Int)
      · rw [if_pos c2] at H
        have c2b0 : decide (x8_1 < (l0.length : Int)) = true := decide_eq_true c2
        clear c2
        by_cases c3 : 0 ≤ x8_1
        · rw [if_pos c3] at H
          have c3b0 : decide (0 ≤ x8_1) = true := decide_eq_true c3
          clear c3
          by_cases c4 : x8_1 < (l0.length : Int)
          · rw [if_pos c4] at H
            have c4b0 : decide (x8_1 < (l0.length : Int)) = true := decide_eq_true c4
            clear c4
            have H' := Aside0.mk H
            clear H
            have p150 : 0 ≤ (x8_1 : Int) := of_decide_eq_true (by first | (with_reducible assumption) | assumption)
            have q150 : x8_1 < (l0.length : Int) := of_decide_eq_true (by first | (with_reducible assumption) | assumption)
            obtain ⟨ad150, e150, hx150_0, hx150_1⟩ := at_T47 HR0.out x8_1 p150 q150
            cases e150
            replace hx150_0 := (HB.out.cell (World.block_lt_of_cell? w _ hx150_0)).trans hx150_0
            replace hx150_1 := (HB.out.cell (World.block_lt_of_cell? w _ hx150_1)).trans hx150_1
            replace p150 := eq_true p150
            replace q150 := eq_true q150
            go_wp2_with (first | ((with_reducible refine gate_dst (N := 5) rfl ?_); refine box_event ?hg (N := 5) ?hd (cs := #[.int .u64 0, .string (⟨#[]⟩ : ByteArray)]) (t := 47) ?hr ?_; (case hd => rfl); (case hg => rfl); (case hr => first | (go_simp; done) | (go_simp; rfl)); intro gb151 hg w5 hbox hb; have n0_ := Aside0.mk (below_step (by repeat (first | (with_reducible first | exact HB.out | apply below_alloc | apply pw_below_drewN | apply below_drew1) | exact HB.out)) hb); have n1_ := Aside0.mk (hbox); have n2_ := Aside0.mk ((by rw [hg]; exact (below_size (by repeat (first | (with_reducible first | exact HB.out | apply below_alloc | apply pw_below_drewN | apply below_drew1) | exact HB.out))) : w.heap.size ≤ gb151)); have n3_ := Aside0.mk ((by rw [hg]; exact (below_size (by repeat (first | (with_reducible first | exact HB.out | apply below_alloc | apply pw_below_drewN | apply below_drew1) | exact HB.out))) : w.heap.size ≤ gb151)); clear HB; have HB := n0_; have BK151 := n1_; have GW151 := n2_; have GE151 := n3_; clear n0_ n1_ n2_ n3_; clear hb hbox hg; have hcz6_0 : w5.cell? ⟨gb151, 0, none⟩ = some (.int .u64 0) := (blk_cell BK151.out 0).trans rfl; have hcz6_1 : w5.cell? ⟨gb151, 1, none⟩ = some (.string (⟨#[]⟩ : ByteArray)) := (blk_cell BK151.out 1).trans rfl; have hfz6_0 := blk_frozen BK151.out 0; have hfz6_1 := blk_frozen BK151.out 1))
            go_roundg k1
            case measure => have := HK1.out; omega
            case rel => exact ⟨(wrap64 (x3_1 + (wrap64 (1 + (((rd_T47 l0 x8_1).f1).size : Int))))), (wrap64 (x8_1 + 1)), (by first | rfl | (simp; done) | (simp [*]; done)), (by first | rfl | (simp; done) | (simp [*]; done)), H', ⟨by have := HK1.out; omega⟩, ⟨by repeat (first | (with_reducible first | exact HB.out | apply below_alloc | apply pw_below_drewN | apply below_drew1 | refine below_set ?_ GE151.out) | exact HB.out)⟩⟩
          · rw [if_neg c4] at H
            exact absurd H (by simp)
        · rw [if_neg c3] at H
          exact absurd H (by simp)
      · rw [if_neg c2] at H
        have c2b0 : decide (x8_1 < (l0.length : Int)) = false := decide_eq_false c2
        clear c2
        obtain rfl := Option.some.inj H
        go_wp2
        go_ret
        exact ⟨by first | rfl | (simp [errW_none, errW_some] <;> rfl) | (simp [*, errW_none, errW_some] <;> rfl), by repeat (first | (with_reducible first | exact HB.out | apply below_alloc | apply pw_below_drewN | apply below_drew1) | exact HB.out)⟩

end Go.Proofs.YtmoopdhnnpjcfaaDoor.PCo
