import Derived.Test.YtamnnaadnjkdiaaRdG
namespace Go.Proofs.Ytamnnaadnjkdiaa.Rd
open Go.RowKit Go.Proofs.YtamnnaadnjkdiaaW.PrintWords Go.Proofs.YtamnnaadnjkdiaaW.PrintLast Go.Proofs.YtamnnaadnjkdiaaW.PrintMore Go.Proofs.Ytamnnaadnjkdiaa.Wire Go.Proofs.Ytamnnaadnjkdiaa.PWi Go.Proofs.Ytamnnaadnjkdiaa.WiG
set_option linter.unusedVariables false
set_option linter.unusedSimpArgs false
set_option maxRecDepth 100000

/-! ### ReaderNone -/
theorem none_closure {W : World} {g bk : Nat} {A : Option Addr} {n c : Nat} (h : At W g A n c 0 true) (hk : W.heap[bk]? = some (.cells #[.pointer none] 27 (0, 0))) (ng : bk ≠ g) :
    Calls Try.prog 33 (#[.pointer (some ⟨g, 0, none⟩)] ++ #[.pointer (some ⟨bk, 0, none⟩)]) W (Left_ (fun k => k = bk) g A n c W (fun a w' => w'.heap[bk]? = some (.cells #[.pointer (some ⟨g, 0, none⟩)] 27 (0, 0))) (fun a er w' => False)) := by
  have H := Aside0.mk h
  have HK := Aside0.mk hk
  have HNG := Aside0.mk ng
  have ck : W.cell? ⟨bk, 0, none⟩ = some (.pointer none) := (blk_cell hk 0).trans rfl
  have fk := blk_frozen hk 0
  clear h hk ng
  go_enter Try.func33, Try.ntmps33
  go_wp2
  go_end0
  exact ⟨(Kp.refl _ W).setCell (p := ⟨bk, 0, none⟩) (.inl (.inr rfl)) _, .inl ⟨rfl, 0, blk_far H.out (p := ⟨bk, 0, none⟩) (fun z => HNG.out z.symm) _, by omega, blk_put HK.out 0 _ rfl⟩⟩
theorem At.stay {w1 w2 : World} {S : Nat → Prop} {g : Nat} {A : Option Addr} {n c a : Nat} {o : Bool} (h : At w1 g A n c a o) (hk : Below w1.heap.size w1 w2) : At w2 g A n c a o := blk_below h hk
set_option maxHeartbeats 4000000 in
theorem readerNone_calls (A0 : Option Addr) (c0 : Nat) (l : List Int) (most : Int) (w : World) (hl2 : l.length ≤ 9223372036854775807) :
    Calls Try.prog 6 #[.slice A0 l.length c0, .int .u64 most] w fun e w' => e = .returned (.bool true) ∧ Below w.heap.size w w' := by
  have hcf : ∀ args w, (callFunc 33 args).run Try.prog w = .ok (.enter 33 args) w := fun _ _ => by kernel_rfl
  have HC1 := Aside0.mk hcf
  clear hcf
  have hmf := hmf
  go_enter Try.func6, Try.ntmps6
  go_wp2_with (go_at_call 18; refine (must_nil _ _ _).mono ?_; rintro e w' ⟨rfl, rfl⟩)
  refine (run_none _ _ _ _).mono ?_
  rintro e w2 ⟨rfl, b2⟩
  have hk2 := blk_below (heap_alloc_new w (.cells #[.pointer none] 27)) b2
  have HB2 := Aside0.mk (below_step (below_alloc (Below.refl _ _) _) b2)
  have HK2 := Aside0.mk hk2
  have hlt : w.heap.size < w2.heap.size := blk_lt hk2
  clear hk2 b2
  go_wp2_with (first | (go_at_call 17; refine (byte_nil _).mono ?_; rintro e w' ⟨rfl, rfl⟩) | (go_at_call 25; refine (uint_nil _ _).mono ?_; rintro e w' ⟨rfl, rfl⟩) | (go_at_call 27; refine (int_nil _).mono ?_; rintro e w' ⟨rfl, m, rfl⟩) | (go_at_call 29; refine (bytes_nil _ _).mono ?_; rintro e w' ⟨rfl, rfl⟩) | (go_at_call 22; refine (at_nil _).mono ?_; rintro e w' ⟨rfl, rfl⟩) | (go_at_call 21; refine (left_nil _).mono ?_; rintro e w' ⟨rfl, rfl⟩))
  refine (run_calls (W := w2.drewN m) (fun k => k = w.heap.size) (fun g _ a w' => w'.heap[w.heap.size]? = some (.cells #[.pointer (some ⟨g, 0, none⟩)] 27 (0, 0))) (fun _ _ _ _ _ => False) hl2 (fun k z => by rw [z]; exact hlt) HC1.out (fun g W1 hat hb h1 h2 => none_closure hat (blk_below HK2.out ⟨hb.os, hb.tape, hb.output, hb.size, hb.block⟩) (fun z => by rw [← z] at h1; exact absurd h1 (Nat.not_le.2 hlt)))).mono ?_
  rintro e w3 ⟨g, h1, a, er, w4, rfl, hg1, hg2, hg3, hkA, hkB, hat, ha, hcase⟩
  obtain ⟨hx, her⟩ := hcase.resolve_right id
  clear her hcase
  have hx3 := hkB.blk hx (fun z => absurd z.1 (Nat.not_le.2 hlt))
  have HB3 := Aside0.mk (hkA.to_below (pw_below_drewN HB2.out m) (fun k z => by rw [z]; exact Nat.le_refl _))
  have HX3 := Aside0.mk hx3
  have HAT := Aside0.mk hat
  have ck : w3.cell? ⟨w.heap.size, 0, none⟩ = some (.pointer (some ⟨g, 0, none⟩)) := (blk_cell hx3 0).trans rfl
  clear hx hx3 hat hkA hkB hg1 hg2 hg3 ha HB2 HK2 hlt
  go_wp2_with (go_at_call 18; refine (must_fine HAT.out _ _ (.inl rfl)).mono ?_; rintro e w' ⟨rfl, rfl⟩)
  refine (alive_calls _).mono ?_
  rintro e w5 ⟨rfl, b5⟩
  have HB5 := Aside0.mk (below_step HB3.out b5)
  have HAT5 := Aside0.mk (HAT.out.below b5)
  have ck5 : w5.cell? ⟨w.heap.size, 0, none⟩ = some (.pointer (some ⟨g, 0, none⟩)) := (blk_cell (blk_below HX3.out b5) 0).trans rfl
  clear b5 ck HB3 HX3 HAT
  go_wp2_with (first | (go_at_call 17; refine (byte_closed HAT5.out).mono ?_; rintro e w' ⟨rfl, rfl⟩) | (go_at_call 25; refine (uint_closed HAT5.out _).mono ?_; rintro e w' ⟨rfl, rfl⟩) | (go_at_call 27; refine (int_closed HAT5.out).mono ?_; rintro e w' ⟨rfl, m5, rfl⟩) | (go_at_call 29; refine (bytes_closed (HAT5.out.drewN m5) _).mono ?_; rintro e w' ⟨rfl, rfl⟩) | (go_at_call 22; refine (at_calls (HAT5.out.drewN m5)).mono ?_; rintro e w' ⟨rfl, rfl⟩) | (go_at_call 21; refine (left_closed (HAT5.out.drewN m5)).mono ?_; rintro e w' ⟨rfl, rfl⟩))
  go_ret
  exact ⟨by first | rfl | simp, pw_below_drewN HB5.out _⟩
end Go.Proofs.Ytamnnaadnjkdiaa.Rd
