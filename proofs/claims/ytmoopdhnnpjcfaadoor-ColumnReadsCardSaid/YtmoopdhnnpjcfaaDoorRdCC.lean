import Derived.Test.YtmoopdhnnpjcfaaDoorRdAA
import Derived.Test.YtmoopdhnnpjcfaaDoorGCo
import Derived.Deep.RegionWith
import Derived.Deep.RegionHeld3
import Derived.StillTailTactics
namespace Go.Proofs.YtmoopdhnnpjcfaaDoor.Rd
open Go.RowKit Go.Proofs.YtmoopdhnnpjcfaaDoorW.PrintWords Go.Proofs.YtmoopdhnnpjcfaaDoorW.PrintLast Go.Proofs.YtmoopdhnnpjcfaaDoorW.PrintMore Go.Proofs.YtmoopdhnnpjcfaaDoor.Wire Go.Proofs.YtmoopdhnnpjcfaaDoor.PCo Go.Proofs.YtmoopdhnnpjcfaaDoor.CoG
set_option linter.unusedVariables false
set_option linter.unusedSimpArgs false
set_option maxRecDepth 100000

theorem info8 : (Tryd.prog.info? 5).map (fun i => (i.zero, i.size, i.bytes)) = some (some (.int .u8 0), 1, 1) := by kernel_rfl
/-- The rest of a reader's bytes, as the code cuts them. -/
theorem cut_rest {W : World} {A : Option Addr} {l : List Int} {c a : Nat} (hC : (Kd.int .u8).C W A l.length l) (hc : l.length ≤ c) (ha : a ≤ l.length) :
    ∃ A1 : Option Addr, (∀ w : World, (Instr.slice 25 (.slice A l.length c) (some (.int .i64 (a : Int))) none none).run Tryd.prog w = .ok (.slice A1 (l.length - a) (c - a)) w) ∧
      (∀ w : World, (Kd.int .u8).C w A l.length l → (Kd.int .u8).C w A1 (l.drop a).length (l.drop a)) ∧ (l.drop a).length ≤ c - a := by
  obtain ⟨i0, hi0, _, hsz0, _⟩ := info_parts info8
  obtain ⟨A1, h1, h2, h3⟩ := print_drop_of (P := Tryd.prog) (Value.int .u8) 0 25 5 .i64 Tryd.underlying25 hi0 hsz0 A c l (a : Int) (by omega) (by omega) hc
  simp only [Int.toNat_natCast] at h1 h2 h3
  refine ⟨A1, fun w => ?_, fun w hw => Kd.C_of_reads (h1 := fun _ => rfl) (h2 w (Kd.reads_of_C hw)), h3⟩
  rw [h1 w, List.length_drop]
theorem getUint_calls {W : World} {A1 : Option Addr} {l : List Int} {n c : Nat} (hn : l.length = n) (hC : (Kd.int .u8).C W A1 l.length l) (hc : l.length ≤ c) (hb : Bytes l) :
    Calls Tryd.prog 133 #[.slice A1 n c] W fun e w' => e = .returned (.tuple #[.int .u64 (gu l).1, .int .i64 (gu l).2.1, .int .i64 (gu l).2.2]) ∧ Below W.heap.size W w' := by
  subst hn
  exact wire_GetUint.calls 12 A1 c l _ _ _ W hC hc (getUint l hb 12 (by decide))
theorem getBytes_calls {W : World} {A1 : Option Addr} {l : List Int} {n c : Nat} (hn : l.length = n) (hC : (Kd.int .u8).C W A1 l.length l) (hc : l.length ≤ c) (hb : Bytes l) (hl : l.length ≤ 140737488351232) (m : Int) (hm : m ≤ 9223372036854775807) :
    Calls Tryd.prog 135 #[.slice A1 n c, .int .i64 m] W fun e w' => ∃ v : Value, e = .returned (.tuple #[v, .int .i64 (gb l m).2.1, .int .i64 (gb l m).2.2]) ∧ Kd.R (Kd.int .u8) 5 w' W.heap.size (fun _ => True) v (gb l m).1 ∧ Below W.heap.size W w' := by
  subst hn
  exact wire_GetBytes.calls 12 A1 c l m _ _ _ W hC hc (getBytes l hb hl m hm 12 (by decide))

section
variable {W : World} {g : Nat} {A : Option Addr} {n c a : Nat} {o : Bool}
set_option maxHeartbeats 2000000 in
theorem uint_calls {l : List Int} (h : At W g A l.length c a true) (hC : (Kd.int .u8).C W A l.length l) (hc : l.length ≤ c) (ha : a ≤ l.length) (hb : Bytes l) (most : Int) (x : Int) (k : Nat) (hg : gu (l.drop a) = (x, (k : Int), 0)) (hx : x ≤ most) (hk : a + k ≤ 9223372036854775807) :
    Calls Tryd.prog 100 #[.pointer (some ⟨g, 0, none⟩), .int .u64 most] W fun e w' => e = .returned (.int .u64 x) ∧ ∃ w1, Below W.heap.size W w1 ∧ w' = w1.setCell ⟨g, 1, none⟩ (.int .i64 ((a + k : Nat) : Int)) := by
  have HL := Aside0.mk (live_calls h)
  obtain ⟨A1, hcut, hA1, hc1⟩ := cut_rest (W := W) hC hc ha
  have HG := Aside0.mk (show ∀ m, Calls Tryd.prog 133 #[.slice A1 (l.length - a) (c - a)] (W.drewN m) _ from fun m => getUint_calls (l := l.drop a) List.length_drop (hA1 _ (Kd.C_drewN hC m)) hc1 (hb.drop a))
  have HT := Aside0.mk (show ∀ w1, Below W.heap.size W w1 → Calls Tryd.prog 134 #[.pointer (some ⟨g, 0, none⟩), .int .i64 (k : Int), .int .i64 0] w1 _ from fun w1 hw => take_calls (h.below hw) k hk)
  have c0 : W.cell? ⟨g, 0, none⟩ = some (.slice A l.length c) := (blk_cell h 0).trans rfl
  have c1 : W.cell? ⟨g, 1, none⟩ = some (.int .i64 (a : Int)) := (blk_cell h 1).trans rfl
  have t1 : decide (most < x) = false := decide_eq_false (by omega)
  rw [hg] at HG
  generalize l.length - a = n1 at *
  clear h hC hc ha hb hg hx hk hA1 hc1
  go_enter Tryd.func100, Tryd.ntmps100
  go_wp2_with (go_at_call 122; refine HL.out.mono ?_; rintro e w' ⟨rfl, rfl⟩)
  go_region_with (go_at_call 133; refine (HG.out _).mono ?_; rintro e w1 ⟨rfl, hb1⟩)
  all_goals
    have HB := Aside0.mk (show Below W.heap.size W w1 from ⟨hb1.os, hb1.tape, hb1.output, hb1.size, hb1.block⟩)
    clear hb1 HG
    go_wp2_with (go_at_call 134; refine (HT.out _ HB.out).mono ?_; rintro e w' ⟨rfl, rfl⟩)
    go_ret
    exact ⟨rfl, _, HB.out, rfl⟩
set_option maxHeartbeats 2000000 in
theorem uint_ends {l : List Int} (h : At W g A l.length c a true) (hC : (Kd.int .u8).C W A l.length l) (hc : l.length ≤ c) (ha : a ≤ l.length) (hb : Bytes l) (most : Int) (x k er : Int) (hg : gu (l.drop a) = (x, k, er)) (he : er ≠ 0 ∨ most < x) :
    Calls Tryd.prog 100 #[.pointer (some ⟨g, 0, none⟩), .int .u64 most] W fun e w' => e = .panicked [ends g (if er = 0 then 3 else er)] ∧ Below W.heap.size W w' := by
  have HL := Aside0.mk (live_calls h)
  obtain ⟨A1, hcut, hA1, hc1⟩ := cut_rest (W := W) hC hc ha
  have HG := Aside0.mk (show ∀ m, Calls Tryd.prog 133 #[.slice A1 (l.length - a) (c - a)] (W.drewN m) _ from fun m => getUint_calls (l := l.drop a) List.length_drop (hA1 _ (Kd.C_drewN hC m)) hc1 (hb.drop a))
  have HT := Aside0.mk (show ∀ er, er ≠ 0 → ∀ w1, Below W.heap.size W w1 → Calls Tryd.prog 134 #[.pointer (some ⟨g, 0, none⟩), .int .i64 k, .int .i64 er] w1 _ from fun er he w1 hw => take_ends (h.below hw) k er he)
  have c0 : W.cell? ⟨g, 0, none⟩ = some (.slice A l.length c) := (blk_cell h 0).trans rfl
  have c1 : W.cell? ⟨g, 1, none⟩ = some (.int .i64 (a : Int)) := (blk_cell h 1).trans rfl
  rw [hg] at HG
  generalize l.length - a = n1 at *
  clear h hC hc ha hb hg hA1 hc1
  by_cases h0 : er = 0
  · subst h0
    have t1 : decide (most < x) = true := decide_eq_true (he.resolve_left (by simp))
    clear he
    go_enter Tryd.func100, Tryd.ntmps100
    go_wp2_with (go_at_call 122; refine HL.out.mono ?_; rintro e w' ⟨rfl, rfl⟩)
    go_region_with (go_at_call 133; refine (HG.out _).mono ?_; rintro e w1 ⟨rfl, hb1⟩)
    all_goals
      have HB := Aside0.mk (show Below W.heap.size W w1 from ⟨hb1.os, hb1.tape, hb1.output, hb1.size, hb1.block⟩)
      clear hb1 HG
      go_wp2_with (go_at_call 134; refine (HT.out 3 (by decide) _ HB.out).mono ?_; rintro e w' ⟨rfl, rfl⟩)
      (try simp only [Exit.inBlock, Exit.then])
      exact ⟨rfl, rfl, HB.out⟩
  · have t1 : (er == 0) = false := beq_eq_false_iff_ne.mpr h0
    have H0 := Aside0.mk h0
    clear he
    rw [if_neg h0]
    clear h0
    go_enter Tryd.func100, Tryd.ntmps100
    go_wp2_with (go_at_call 122; refine HL.out.mono ?_; rintro e w' ⟨rfl, rfl⟩)
    go_region_with (go_at_call 133; refine (HG.out _).mono ?_; rintro e w1 ⟨rfl, hb1⟩)
    all_goals
      have HB := Aside0.mk (show Below W.heap.size W w1 from ⟨hb1.os, hb1.tape, hb1.output, hb1.size, hb1.block⟩)
      clear hb1 HG
      go_wp2_with (go_at_call 134; refine (HT.out _ H0.out _ HB.out).mono ?_; rintro e w' ⟨rfl, rfl⟩)
      (try simp only [Exit.inBlock, Exit.then])
      exact ⟨rfl, rfl, HB.out⟩
theorem uint_closed (h : At W g A n c a false) (most : Int) : Calls Tryd.prog 100 #[.pointer (some ⟨g, 0, none⟩), .int .u64 most] W fun e w' => e = .returned (.int .u64 0) ∧ W = w' := by
  have HL := Aside0.mk (live_calls h)
  clear h
  go_enter Tryd.func100, Tryd.ntmps100
  go_wp2_with (go_at_call 122; refine HL.out.mono ?_; rintro e w' ⟨rfl, rfl⟩)
  go_ret
  exact ⟨rfl, rfl⟩
theorem uint_nil (W : World) (most : Int) : Calls Tryd.prog 100 #[.pointer none, .int .u64 most] W fun e w' => e = .returned (.int .u64 0) ∧ W = w' := by
  go_enter Tryd.func100, Tryd.ntmps100
  go_wp2_with (go_at_call 122; refine (live_nil _).mono ?_; rintro e w' ⟨rfl, rfl⟩)
  go_ret
  exact ⟨rfl, rfl⟩
theorem zag_calls (x : Int) (h0 : 0 ≤ x) (h1 : x < 18446744073709551616) (w : World) : Calls Tryd.prog 191 #[.int .u64 x] w fun e w' => e = .returned (.int .i64 (zagS x)) ∧ Drawn0 w w' :=
  wire_Zag.calls x _ w (zag h0 h1)
theorem int_calls {l : List Int} (h : At W g A l.length c a true) (hC : (Kd.int .u8).C W A l.length l) (hc : l.length ≤ c) (ha : a ≤ l.length) (hb : Bytes l) (x : Int) (k : Nat) (hg : gu (l.drop a) = (x, (k : Int), 0)) (h0 : 0 ≤ x) (hx : x < 18446744073709551616) (hk : a + k ≤ 9223372036854775807) :
    Calls Tryd.prog 170 #[.pointer (some ⟨g, 0, none⟩)] W fun e w' => e = .returned (.int .i64 (zagS x)) ∧ ∃ w1 m, Below W.heap.size W w1 ∧ w' = (w1.setCell ⟨g, 1, none⟩ (.int .i64 ((a + k : Nat) : Int))).drewN m := by
  have HU := Aside0.mk (uint_calls h hC hc ha hb 18446744073709551615 x k hg (by omega) hk)
  have HZ := Aside0.mk (zag_calls x h0 hx)
  clear h hC hc ha hb hg h0 hx hk
  go_enter Tryd.func170, Tryd.ntmps170
  go_wp2_with (first | (go_at_call 100; refine HU.out.mono ?_; rintro e w' ⟨rfl, w1, hb1, rfl⟩; have HB := Aside0.mk hb1; clear hb1) | (go_at_call 191; refine (HZ.out _).mono ?_; rintro e w' ⟨rfl, ⟨m, rfl⟩⟩))
  go_ret
  exact ⟨rfl, _, _, HB.out, rfl⟩
theorem int_ends {l : List Int} (h : At W g A l.length c a true) (hC : (Kd.int .u8).C W A l.length l) (hc : l.length ≤ c) (ha : a ≤ l.length) (hb : Bytes l) (x k er : Int) (hg : gu (l.drop a) = (x, k, er)) (he : er ≠ 0) :
    Calls Tryd.prog 170 #[.pointer (some ⟨g, 0, none⟩)] W fun e w' => e = .panicked [ends g er] ∧ Below W.heap.size W w' := by
  have HU := uint_ends h hC hc ha hb 18446744073709551615 x k er hg (.inl he)
  rw [if_neg he] at HU
  have HU := Aside0.mk HU
  clear h hC hc ha hb hg he
  go_enter Tryd.func170, Tryd.ntmps170
  go_wp2_with (go_at_call 100; refine HU.out.mono ?_; rintro e w' ⟨rfl, hb1⟩)
  (try simp only [Exit.inBlock, Exit.then])
  exact ⟨rfl, rfl, hb1⟩
theorem int_closed (h : At W g A n c a false) : Calls Tryd.prog 170 #[.pointer (some ⟨g, 0, none⟩)] W fun e w' => e = .returned (.int .i64 0) ∧ ∃ m, w' = W.drewN m := by
  have HU := Aside0.mk (uint_closed h 18446744073709551615)
  have HZ := Aside0.mk (zag_calls 0 (by decide) (by decide))
  clear h
  go_enter Tryd.func170, Tryd.ntmps170
  go_wp2_with (first | (go_at_call 100; refine HU.out.mono ?_; rintro e w' ⟨rfl, rfl⟩) | (go_at_call 191; refine (HZ.out _).mono ?_; rintro e w' ⟨rfl, ⟨m, rfl⟩⟩))
  go_ret
  exact ⟨rfl, _, rfl⟩
theorem int_nil (W : World) : Calls Tryd.prog 170 #[.pointer none] W fun e w' => e = .returned (.int .i64 0) ∧ ∃ m, w' = W.drewN m := by
  have HZ := Aside0.mk (zag_calls 0 (by decide) (by decide))
  go_enter Tryd.func170, Tryd.ntmps170
  go_wp2_with (first | (go_at_call 100; refine (uint_nil _ _).mono ?_; rintro e w' ⟨rfl, rfl⟩) | (go_at_call 191; refine (HZ.out _).mono ?_; rintro e w' ⟨rfl, ⟨m, rfl⟩⟩))
  go_ret
  exact ⟨rfl, _, rfl⟩
end
end Go.Proofs.YtmoopdhnnpjcfaaDoor.Rd
namespace Go.Proofs.YtmoopdhnnpjcfaaDoor.Rd
open Go.RowKit Go.Proofs.YtmoopdhnnpjcfaaDoorW.PrintWords Go.Proofs.YtmoopdhnnpjcfaaDoorW.PrintLast Go.Proofs.YtmoopdhnnpjcfaaDoorW.PrintMore Go.Proofs.YtmoopdhnnpjcfaaDoor.Wire Go.Proofs.YtmoopdhnnpjcfaaDoor.PCo Go.Proofs.YtmoopdhnnpjcfaaDoor.CoG
set_option linter.unusedVariables false
set_option linter.unusedSimpArgs false
set_option maxRecDepth 100000

section
variable {W : World} {g : Nat} {A : Option Addr} {n c a : Nat} {o : Bool}
set_option maxHeartbeats 2000000 in
theorem bytes_calls {l : List Int} (h : At W g A l.length c a true) (hC : (Kd.int .u8).C W A l.length l) (hc : l.length ≤ c) (ha : a ≤ l.length) (hb : Bytes l) (hl : l.length ≤ 140737488351232) (most : Int) (hm : most ≤ 9223372036854775807) (p : List Int) (k : Nat) (hg : gb (l.drop a) most = (p, (k : Int), 0)) (hk : a + k ≤ 9223372036854775807) :
    Calls Tryd.prog 101 #[.pointer (some ⟨g, 0, none⟩), .int .i64 most] W fun e w' => ∃ v w1, e = .returned v ∧ Kd.R (Kd.int .u8) 5 w1 W.heap.size (fun _ => True) v p ∧ Below W.heap.size W w1 ∧ w' = w1.setCell ⟨g, 1, none⟩ (.int .i64 ((a + k : Nat) : Int)) := by
  have HL := Aside0.mk (live_calls h)
  obtain ⟨A1, hcut, hA1, hc1⟩ := cut_rest (W := W) hC hc ha
  have HG := Aside0.mk (show ∀ m, Calls Tryd.prog 135 #[.slice A1 (l.length - a) (c - a), .int .i64 most] (W.drewN m) _ from fun m => getBytes_calls (l := l.drop a) List.length_drop (hA1 _ (Kd.C_drewN hC m)) hc1 (hb.drop a) (by rw [List.length_drop]; omega) most hm)
  have HT := Aside0.mk (show ∀ w1, Below W.heap.size W w1 → Calls Tryd.prog 134 #[.pointer (some ⟨g, 0, none⟩), .int .i64 (k : Int), .int .i64 0] w1 _ from fun w1 hw => take_calls (h.below hw) k hk)
  have c0 : W.cell? ⟨g, 0, none⟩ = some (.slice A l.length c) := (blk_cell h 0).trans rfl
  have c1 : W.cell? ⟨g, 1, none⟩ = some (.int .i64 (a : Int)) := (blk_cell h 1).trans rfl
  rw [hg] at HG
  generalize l.length - a = n1 at *
  clear h hC hc ha hb hg hl hm hk hA1 hc1
  go_enter Tryd.func101, Tryd.ntmps101
  go_wp2_with (go_at_call 122; refine HL.out.mono ?_; rintro e w' ⟨rfl, rfl⟩)
  go_region_with (go_at_call 135; refine (HG.out _).mono ?_; rintro e w1 ⟨v, rfl, hv, hb1⟩)
  all_goals
    have HB := Aside0.mk (show Below W.heap.size W w1 from ⟨hb1.os, hb1.tape, hb1.output, hb1.size, hb1.block⟩)
    have HV := Aside0.mk (show Kd.R (Kd.int .u8) 5 w1 W.heap.size (fun _ => True) v p from hv)
    clear hb1 HG hv
    go_wp2_with (go_at_call 134; refine (HT.out _ HB.out).mono ?_; rintro e w' ⟨rfl, rfl⟩)
    go_ret
    exact ⟨_, _, rfl, HV.out, HB.out, rfl⟩
set_option maxHeartbeats 2000000 in
theorem bytes_ends {l : List Int} (h : At W g A l.length c a true) (hC : (Kd.int .u8).C W A l.length l) (hc : l.length ≤ c) (ha : a ≤ l.length) (hb : Bytes l) (hl : l.length ≤ 140737488351232) (most : Int) (hm : most ≤ 9223372036854775807) (p : List Int) (k er : Int) (hg : gb (l.drop a) most = (p, k, er)) (he : er ≠ 0) :
    Calls Tryd.prog 101 #[.pointer (some ⟨g, 0, none⟩), .int .i64 most] W fun e w' => e = .panicked [ends g er] ∧ Below W.heap.size W w' := by
  have HL := Aside0.mk (live_calls h)
  obtain ⟨A1, hcut, hA1, hc1⟩ := cut_rest (W := W) hC hc ha
  have HG := Aside0.mk (show ∀ m, Calls Tryd.prog 135 #[.slice A1 (l.length - a) (c - a), .int .i64 most] (W.drewN m) _ from fun m => getBytes_calls (l := l.drop a) List.length_drop (hA1 _ (Kd.C_drewN hC m)) hc1 (hb.drop a) (by rw [List.length_drop]; omega) most hm)
  have HT := Aside0.mk (show ∀ w1, Below W.heap.size W w1 → Calls Tryd.prog 134 #[.pointer (some ⟨g, 0, none⟩), .int .i64 k, .int .i64 er] w1 _ from fun w1 hw => take_ends (h.below hw) k er he)
  have c0 : W.cell? ⟨g, 0, none⟩ = some (.slice A l.length c) := (blk_cell h 0).trans rfl
  have c1 : W.cell? ⟨g, 1, none⟩ = some (.int .i64 (a : Int)) := (blk_cell h 1).trans rfl
  rw [hg] at HG
  generalize l.length - a = n1 at *
  clear h hC hc ha hb hg hl hm hA1 hc1 he
  go_enter Tryd.func101, Tryd.ntmps101
  go_wp2_with (go_at_call 122; refine HL.out.mono ?_; rintro e w' ⟨rfl, rfl⟩)
  go_region_with (go_at_call 135; refine (HG.out _).mono ?_; rintro e w1 ⟨v, rfl, hv, hb1⟩)
  all_goals
    have HB := Aside0.mk (show Below W.heap.size W w1 from ⟨hb1.os, hb1.tape, hb1.output, hb1.size, hb1.block⟩)
    clear hb1 HG hv
    go_wp2_with (go_at_call 134; refine (HT.out _ HB.out).mono ?_; rintro e w' ⟨rfl, rfl⟩)
    (try simp only [Exit.inBlock, Exit.then])
    exact ⟨rfl, rfl, HB.out⟩
theorem bytes_closed (h : At W g A n c a false) (most : Int) : Calls Tryd.prog 101 #[.pointer (some ⟨g, 0, none⟩), .int .i64 most] W fun e w' => e = .returned (.slice none 0 0) ∧ W = w' := by
  have HL := Aside0.mk (live_calls h)
  clear h
  go_enter Tryd.func101, Tryd.ntmps101
  go_wp2_with (go_at_call 122; refine HL.out.mono ?_; rintro e w' ⟨rfl, rfl⟩)
  go_ret
  exact ⟨rfl, rfl⟩
theorem bytes_nil (W : World) (most : Int) : Calls Tryd.prog 101 #[.pointer none, .int .i64 most] W fun e w' => e = .returned (.slice none 0 0) ∧ W = w' := by
  go_enter Tryd.func101, Tryd.ntmps101
  go_wp2_with (go_at_call 122; refine (live_nil _).mono ?_; rintro e w' ⟨rfl, rfl⟩)
  go_ret
  exact ⟨rfl, rfl⟩
end
end Go.Proofs.YtmoopdhnnpjcfaaDoor.Rd
