import Derived.Test.YtamnnaadnjkdiaaRdF
namespace Go.Proofs.Ytamnnaadnjkdiaa.Rd
open Go.RowKit Go.Proofs.YtamnnaadnjkdiaaW.PrintWords Go.Proofs.YtamnnaadnjkdiaaW.PrintLast Go.Proofs.YtamnnaadnjkdiaaW.PrintMore Go.Proofs.Ytamnnaadnjkdiaa.Wire Go.Proofs.Ytamnnaadnjkdiaa.PWi Go.Proofs.Ytamnnaadnjkdiaa.WiG
set_option linter.unusedVariables false
set_option linter.unusedSimpArgs false
set_option maxRecDepth 100000

theorem hmf : ∀ (fn : Fn) (first cap : Array Value) (w : World), (Instr.makeFunc fn first cap).run Try.prog w = .ok (.func fn first cap) w := fun _ _ _ _ => rfl
/-! ### The document's example -/
def lit3 : List Int := [5, 172, 2]
theorem lit3_bytes : Bytes lit3 := fun c hc => by simp [lit3] at hc; omega
theorem alive1 {w0 W : World} {g bx : Nat} {A : Option Addr} {c : Nat} (h : Rd w0 W g A c lit3 0) (hx : W.heap[bx]? = some (.cells #[.int .u64 0] 39 (0, 0))) (hb : w0.heap.size ≤ bx) (hg : bx ≠ g) :
    Calls Try.prog 46 (#[.pointer (some ⟨g, 0, none⟩)] ++ #[.pointer (some ⟨bx, 0, none⟩)]) W (Left_ (fun k => k = bx) g A lit3.length c W (fun a w' => a = 3 ∧ w'.heap[bx]? = some (.cells #[.int .u64 300] 39 (0, 0))) (fun _ _ _ => False)) := by
  have hu : gu (lit3.drop 1) = (300, ((2 : Nat) : Int), 0) := by decide +kernel
  have HU := Aside0.mk hu
  have HX := Aside0.mk hx
  clear hu hx
  go_enter Try.func46, Try.ntmps46
  go_wp2_with fail
  refine (h.byte_step (by decide)).mono ?_
  rintro e w2 ⟨rfl, h2, k2⟩
  go_wp2_with fail
  refine (h2.uint_step 300 300 2 HU.out (by decide)).mono ?_
  rintro e w3 ⟨rfl, h3, k3⟩
  have hx3 : w3.heap[bx]? = some (.cells #[.int .u64 0] 39 (0, 0)) := k3.blk (k2.blk HX.out hg) hg
  have cx : w3.cell? ⟨bx, 0, none⟩ = some (.int .u64 0) := (blk_cell hx3 0).trans rfl
  have fx := blk_frozen hx3 0
  have HX3 := Aside0.mk hx3
  clear hx3
  go_wp2
  go_end0
  have kk : Kp (fun k => k = g ∨ k = bx) W (w3.setCell ⟨bx, 0, none⟩ (.int .u64 300)) := (((k2.trans k3).mono (fun k z => .inl z)).setCell (p := ⟨bx, 0, none⟩) (.inl (.inr rfl)) _)
  exact ⟨kk, .inl ⟨rfl, 3, blk_far h3.at_ (p := ⟨bx, 0, none⟩) (fun z => hg z.symm) _, by decide, rfl, blk_put HX3.out 0 _ rfl⟩⟩
theorem alive2 {w0 W : World} {g : Nat} {A : Option Addr} {c : Nat} (h : Rd w0 W g A c lit3 0) :
    Calls Try.prog 47 (#[.pointer (some ⟨g, 0, none⟩)] ++ #[]) W (Left_ (fun k => False) g A lit3.length c W (fun a w' => False) (fun a er _ => a = 1 ∧ er = 3)) := by
  have hu : gu (lit3.drop 1) = (300, ((2 : Nat) : Int), 0) := by decide +kernel
  have HU := Aside0.mk hu
  clear hu
  go_enter Try.func47, Try.ntmps47
  go_wp2_with fail
  refine (h.byte_step (by decide)).mono ?_
  rintro e w2 ⟨rfl, h2, k2⟩
  go_wp2_with fail
  refine (h2.uint_end 299 300 2 0 HU.out (.inr (by decide))).mono ?_
  rintro e w3 ⟨rfl, h3, k3⟩
  go_wp2
  (try simp only [Exit.inBlock, Exit.then])
  exact ⟨rfl, (k2.trans k3).mono (fun k z => .inl z), .inr ⟨1, 3, rfl, h3.at_, by decide, rfl, rfl⟩⟩
theorem alive3 {w0 W : World} {g : Nat} {A : Option Addr} {c : Nat} (h : Rd w0 W g A c lit3 0) :
    Calls Try.prog 48 (#[.pointer (some ⟨g, 0, none⟩)] ++ #[]) W (Left_ (fun k => False) g A lit3.length c W (fun a w' => a = 1) (fun a er _ => False)) := by
  go_enter Try.func48, Try.ntmps48
  go_wp2_with fail
  refine (h.byte_step (by decide)).mono ?_
  rintro e w2 ⟨rfl, h2, k2⟩
  go_wp2
  go_end0
  exact ⟨k2.mono (fun k z => .inl z), .inl ⟨rfl, 1, h2.at_, by decide, rfl⟩⟩
theorem lit_row (W : World) (xs : List Int) (fr : Nat × Nat) (hx : xs.length ≤ 9223372036854775807) : Kd.C (Kd.int .u8) (W.alloc (.cells (xs.map (Value.int .u8)).toArray 5 fr)) (some ⟨W.heap.size, 0, none⟩) xs.length xs := by
  refine Kd.C_of_reads (d := (0 : Int)) (h1 := fun _ => rfl) ⟨rfl, hx, fun _ => ⟨_, rfl, fun j hj => ?_⟩⟩
  rw [add_plain, cell_of_row _ _ _ _ _ _ (heap_alloc_new W _)]
  simp [List.getElem?_eq_getElem hj, List.getD_eq_getElem?_getD]
set_option maxHeartbeats 4000000 in
theorem alive_calls (w : World) : Calls Try.prog 14 #[] w fun e w' => e = .returned (.bool true) ∧ Below w.heap.size w w' := by
  have hcf1 : ∀ args w, (callFunc 46 args).run Try.prog w = .ok (.enter 46 args) w := fun _ _ => by kernel_rfl
  have hcf2 : ∀ args w, (callFunc 47 args).run Try.prog w = .ok (.enter 47 args) w := fun _ _ => by kernel_rfl
  have hcf3 : ∀ args w, (callFunc 48 args).run Try.prog w = .ok (.enter 48 args) w := fun _ _ => by kernel_rfl
  have HC1 := Aside0.mk hcf1
  have HC2 := Aside0.mk hcf2
  have HC3 := Aside0.mk hcf3
  clear hcf1 hcf2 hcf3
  have hmf := hmf
  go_enter Try.func14, Try.ntmps14
  go_wp2_with fail
  have hrow := lit_row w lit3 (0, 0) (by decide)
  have HROW := Aside0.mk hrow
  clear hrow
  have hw0 : (w.alloc (.cells (lit3.map (Value.int .u8)).toArray 5 (0, 0))).heap.size = w.heap.size + 1 := by simp
  refine (run_rd (w0 := w.alloc (.cells (lit3.map (Value.int .u8)).toArray 5 (0, 0))) (l := lit3) (fun k => k = w.heap.size + 1) (fun g h a w' => a = 3 ∧ w'.heap[w.heap.size + 1]? = some (.cells #[.int .u64 300] 39 (0, 0))) (fun _ _ _ _ _ => False) (below_alloc (Below.refl _ _) _) HROW.out (by decide) lit3_bytes (by decide) (fun k z => by rw [z]; simp) HC1.out ?_).mono ?_
  · intro g W1 hr hb h1 h2
    refine alive1 hr (blk_below ?_ hb) (by rw [hw0]; omega) ?_
    · have := heap_alloc_new (w.alloc (.cells (lit3.map (Value.int .u8)).toArray 5 (0, 0))) (.cells #[.int .u64 0] 39 (0, 0))
      rw [hw0] at this
      exact this
    · simp at h1
      omega
  rintro e w2 ⟨g, h1, a, er, w1, rfl, hg1, hg2, hg3, hkA, hkB, hat, ha, hcase⟩
  obtain ⟨⟨rfl, hx⟩, her⟩ := hcase.resolve_right id
  rw [if_neg (by decide)] at her
  subst her
  · have hx2 : w2.heap[w.heap.size + 1]? = some (.cells #[.int .u64 300] 39 (0, 0)) := hkB.blk hx (fun z => by have := z.1; simp at this; omega)
    have HB2 := Aside0.mk (hkA.to_below (below_alloc (Below.refl _ _) _) (fun k z => by rw [z]; simp))
    have HX2 := Aside0.mk hx2
    clear hx2 hx hkA hkB hat hg1 hg2 hg3
    go_wp2_with fail
    refine (run_rd (w0 := w.alloc (.cells (lit3.map (Value.int .u8)).toArray 5 (0, 0))) (l := lit3) (fun k => False) (fun g h a w' => False) (fun _ _ a er _ => a = 1 ∧ er = 3) HB2.out HROW.out (by decide) lit3_bytes (by decide) (fun k z => z.elim) HC2.out (fun g W1 hr hb h1 h2 => alive2 hr)).mono ?_
    rintro e w3 ⟨g3, h3, a3, er3, w13, rfl, hg1, hg2, hg3, hkA, hkB, hat, ha, hcase⟩
    rcases hcase with ⟨hF, _⟩ | ⟨rfl, rfl⟩
    · exact hF.elim
    have hx3 := hkA.blk HX2.out (fun z => z)
    have HB3 := Aside0.mk (hkA.to_below HB2.out (fun k z => z.elim))
    have HX3 := Aside0.mk hx3
    clear hx3 hkA hkB hat hg1 hg2 hg3 HX2 HB2
    go_wp2_with fail
    refine (run_rd (w0 := w.alloc (.cells (lit3.map (Value.int .u8)).toArray 5 (0, 0))) (l := lit3) (fun k => False) (fun g h a w' => a = 1) (fun _ _ a er _ => False) HB3.out HROW.out (by decide) lit3_bytes (by decide) (fun k z => z.elim) HC3.out (fun g W1 hr hb h1 h2 => alive3 hr)).mono ?_
    rintro e w4 ⟨g4, h4, a4, er4, w14, rfl, hg1, hg2, hg3, hkA, hkB, hat, ha, hcase⟩
    obtain ⟨rfl, her⟩ := hcase.resolve_right id
    rw [if_pos (by decide)] at her
    subst her
    have hx4 := hkA.blk HX3.out (fun z => z)
    have HB4 := Aside0.mk (hkA.to_below HB3.out (fun k z => z.elim))
    have cx : w4.cell? ⟨w.heap.size + 1, 0, none⟩ = some (.int .u64 300) := (blk_cell hx4 0).trans rfl
    clear hx4 hkA hkB hat hg1 hg2 hg3 HX3 HB3
    go_wp2
    go_ret
    exact ⟨by first | rfl | simp | (simp; decide), (below_alloc (Below.refl _ _) _).trans (HB4.out.mono (by rw [hw0]; omega))⟩
end Go.Proofs.Ytamnnaadnjkdiaa.Rd
