import Derived.Test.YtamnnaadnjkdiaaRdC
namespace Go.Proofs.Ytamnnaadnjkdiaa.Rd
open Go.RowKit Go.Proofs.YtamnnaadnjkdiaaW.PrintWords Go.Proofs.YtamnnaadnjkdiaaW.PrintLast Go.Proofs.YtamnnaadnjkdiaaW.PrintMore Go.Proofs.Ytamnnaadnjkdiaa.Wire Go.Proofs.Ytamnnaadnjkdiaa.PWi Go.Proofs.Ytamnnaadnjkdiaa.WiG
set_option linter.unusedVariables false
set_option linter.unusedSimpArgs false
set_option maxRecDepth 100000

section
variable {W : World} {g : Nat} {A : Option Addr} {n c a : Nat} {o : Bool}
set_option maxHeartbeats 2000000 in
theorem bytes_calls {l : List Int} (h : At W g A l.length c a true) (hC : (Kd.int .u8).C W A l.length l) (hc : l.length ≤ c) (ha : a ≤ l.length) (hb : Bytes l) (hl : l.length ≤ 140737488351232) (most : Int) (hm : most ≤ 9223372036854775807) (p : List Int) (k : Nat) (hg : gb (l.drop a) most = (p, (k : Int), 0)) (hk : a + k ≤ 9223372036854775807) :
    Calls Try.prog 29 #[.pointer (some ⟨g, 0, none⟩), .int .i64 most] W fun e w' => ∃ v w1, e = .returned v ∧ Kd.R (Kd.int .u8) 5 w1 W.heap.size (fun _ => True) v p ∧ Below W.heap.size W w1 ∧ w' = w1.setCell ⟨g, 1, none⟩ (.int .i64 ((a + k : Nat) : Int)) := by
  have HL := Aside0.mk (live_calls h)
  obtain ⟨A1, hcut, hA1, hc1⟩ := cut_rest (W := W) hC hc ha
  have HG := Aside0.mk (show ∀ m, Calls Try.prog 57 #[.slice A1 (l.length - a) (c - a), .int .i64 most] (W.drewN m) _ from fun m => getBytes_calls (l := l.drop a) List.length_drop (hA1 _ (Kd.C_drewN hC m)) hc1 (hb.drop a) (by rw [List.length_drop]; omega) most hm)
  have HT := Aside0.mk (show ∀ w1, Below W.heap.size W w1 → Calls Try.prog 51 #[.pointer (some ⟨g, 0, none⟩), .int .i64 (k : Int), .int .i64 0] w1 _ from fun w1 hw => take_calls (h.below hw) k hk)
  have c0 : W.cell? ⟨g, 0, none⟩ = some (.slice A l.length c) := (blk_cell h 0).trans rfl
  have c1 : W.cell? ⟨g, 1, none⟩ = some (.int .i64 (a : Int)) := (blk_cell h 1).trans rfl
  rw [hg] at HG
  generalize l.length - a = n1 at *
  clear h hC hc ha hb hg hl hm hk hA1 hc1
  go_enter Try.func29, Try.ntmps29
  go_wp2_with (go_at_call 50; refine HL.out.mono ?_; rintro e w' ⟨rfl, rfl⟩)
  go_region_with (go_at_call 57; refine (HG.out _).mono ?_; rintro e w1 ⟨v, rfl, hv, hb1⟩)
  all_goals
    have HB := Aside0.mk (show Below W.heap.size W w1 from ⟨hb1.os, hb1.tape, hb1.output, hb1.size, hb1.block⟩)
    have HV := Aside0.mk (show Kd.R (Kd.int .u8) 5 w1 W.heap.size (fun _ => True) v p from hv)
    clear hb1 HG hv
    go_wp2_with (go_at_call 51; refine (HT.out _ HB.out).mono ?_; rintro e w' ⟨rfl, rfl⟩)
    go_ret
    exact ⟨_, _, rfl, HV.out, HB.out, rfl⟩
set_option maxHeartbeats 2000000 in
theorem bytes_ends {l : List Int} (h : At W g A l.length c a true) (hC : (Kd.int .u8).C W A l.length l) (hc : l.length ≤ c) (ha : a ≤ l.length) (hb : Bytes l) (hl : l.length ≤ 140737488351232) (most : Int) (hm : most ≤ 9223372036854775807) (p : List Int) (k er : Int) (hg : gb (l.drop a) most = (p, k, er)) (he : er ≠ 0) :
    Calls Try.prog 29 #[.pointer (some ⟨g, 0, none⟩), .int .i64 most] W fun e w' => e = .panicked [ends g er] ∧ Below W.heap.size W w' := by
  have HL := Aside0.mk (live_calls h)
  obtain ⟨A1, hcut, hA1, hc1⟩ := cut_rest (W := W) hC hc ha
  have HG := Aside0.mk (show ∀ m, Calls Try.prog 57 #[.slice A1 (l.length - a) (c - a), .int .i64 most] (W.drewN m) _ from fun m => getBytes_calls (l := l.drop a) List.length_drop (hA1 _ (Kd.C_drewN hC m)) hc1 (hb.drop a) (by rw [List.length_drop]; omega) most hm)
  have HT := Aside0.mk (show ∀ w1, Below W.heap.size W w1 → Calls Try.prog 51 #[.pointer (some ⟨g, 0, none⟩), .int .i64 k, .int .i64 er] w1 _ from fun w1 hw => take_ends (h.below hw) k er he)
  have c0 : W.cell? ⟨g, 0, none⟩ = some (.slice A l.length c) := (blk_cell h 0).trans rfl
  have c1 : W.cell? ⟨g, 1, none⟩ = some (.int .i64 (a : Int)) := (blk_cell h 1).trans rfl
  rw [hg] at HG
  generalize l.length - a = n1 at *
  clear h hC hc ha hb hg hl hm hA1 hc1 he
  go_enter Try.func29, Try.ntmps29
  go_wp2_with (go_at_call 50; refine HL.out.mono ?_; rintro e w' ⟨rfl, rfl⟩)
  go_region_with (go_at_call 57; refine (HG.out _).mono ?_; rintro e w1 ⟨v, rfl, hv, hb1⟩)
  all_goals
    have HB := Aside0.mk (show Below W.heap.size W w1 from ⟨hb1.os, hb1.tape, hb1.output, hb1.size, hb1.block⟩)
    clear hb1 HG hv
    go_wp2_with (go_at_call 51; refine (HT.out _ HB.out).mono ?_; rintro e w' ⟨rfl, rfl⟩)
    (try simp only [Exit.inBlock, Exit.then])
    exact ⟨rfl, rfl, HB.out⟩
theorem bytes_closed (h : At W g A n c a false) (most : Int) : Calls Try.prog 29 #[.pointer (some ⟨g, 0, none⟩), .int .i64 most] W fun e w' => e = .returned (.slice none 0 0) ∧ W = w' := by
  have HL := Aside0.mk (live_calls h)
  clear h
  go_enter Try.func29, Try.ntmps29
  go_wp2_with (go_at_call 50; refine HL.out.mono ?_; rintro e w' ⟨rfl, rfl⟩)
  go_ret
  exact ⟨rfl, rfl⟩
theorem bytes_nil (W : World) (most : Int) : Calls Try.prog 29 #[.pointer none, .int .i64 most] W fun e w' => e = .returned (.slice none 0 0) ∧ W = w' := by
  go_enter Try.func29, Try.ntmps29
  go_wp2_with (go_at_call 50; refine (live_nil _).mono ?_; rintro e w' ⟨rfl, rfl⟩)
  go_ret
  exact ⟨rfl, rfl⟩
end
end Go.Proofs.Ytamnnaadnjkdiaa.Rd
