import Derived.Test.YtkngkjgapgnmbaaGCb
import Derived.Test.YtkngkjgapgnmbaaGWb
import Derived.Outline
import Derived.BigQuiet
import Derived.RegionTactic
import Derived.WalkSmall
import Derived.Deep.LoopGhost
namespace Go.Proofs.Ytkngkjgapgnmbaa.Ct
open Go.RowKit Go.Proofs.YtkngkjgapgnmbaaW.PrintWords Go.Proofs.YtkngkjgapgnmbaaW.PrintLast Go.Proofs.YtkngkjgapgnmbaaW.PrintMore Go.Proofs.Ytkngkjgapgnmbaa.Wire Go.Proofs.Ytkngkjgapgnmbaa.Crc Go.Proofs.Ytkngkjgapgnmbaa.PCb Go.Proofs.Ytkngkjgapgnmbaa.CbC Go.Proofs.Ytkngkjgapgnmbaa.WbG
set_option linter.unusedVariables false
set_option linter.unusedSimpArgs false
set_option maxRecDepth 100000

theorem info8 : (Try.prog.info? 5).map (fun i => (i.zero, i.size, i.bytes)) = some (some (.int .u8 0), 1, 1) := by kernel_rfl
/-! The plain part: a step sets bit p of t to the other value than it has in s. -/
def bitOf (l : List Int) (p : Nat) : Bool := (l.getD (p / 8) 0).toNat.testBit (p % 8)
theorem bit_flip {t : List Int} {p q : Nat} (hp : p / 8 < t.length) : bitOf (flip t p) q = if p = q then !bitOf t q else bitOf t q := by
  unfold bitOf Crc.flip
  by_cases h8 : p / 8 = q / 8
  · rw [← h8, List.getD_eq_getElem?_getD, List.getElem?_set_self hp]
    simp only [Option.getD_some, Int.toNat_natCast]
    rw [Nat.testBit_xor, Nat.testBit_two_pow]
    by_cases h : p = q
    · subst h; simp
    · rw [if_neg h, show decide (p % 8 = q % 8) = false from decide_eq_false (by omega)]; simp
  · rw [if_neg (by intro h; exact h8 (by rw [h]))]
    rw [List.getD_eq_getElem?_getD, List.getElem?_set_ne h8, ← List.getD_eq_getElem?_getD]
/-- What the round does to t. -/
def step (s t : List Int) (p : Nat) : List Int := if bitOf t p = bitOf s p then flip t p else t
theorem step_len (s t : List Int) (p : Nat) : (step s t p).length = t.length := by
  unfold step; split
  · exact flip_len _ _
  · rfl
theorem step_bytes {s t : List Int} (h : Bytes t) (p : Nat) : Bytes (step s t p) := by
  unfold step; split
  · exact flip_bytes h _
  · exact h
theorem turned {s : List Int} {n : Nat} (hn : s.length = n) (h3 : 8 * n ≤ 24600) {p0 p1 p2 : Nat} (h0 : p0 < 8 * n) (h1 : p1 < 8 * n) (h2 : p2 < 8 * n) :
    ∃ d, F (step s (step s (step s s p0) p1) p2) = F s ^^^ d ∧ d ≠ 0 := by
  subst hn
  have e0 : step s s p0 = flip s p0 := by unfold step; rw [if_pos rfl]
  have f0 := F_flip s p0 h0
  have l0 := flip_len s p0
  have b0 : ∀ q, bitOf (flip s p0) q = if p0 = q then !bitOf s q else bitOf s q := fun q => bit_flip (by omega)
  rw [e0]
  have nb : ∀ b : Bool, ¬ ((!b) = b) := by decide
  by_cases h01 : p0 = p1
  · have e1 : step s (flip s p0) p1 = flip s p0 := by unfold step; rw [b0, if_pos h01, if_neg (nb _)]
    rw [e1]
    by_cases h02 : p0 = p2
    · have e2 : step s (flip s p0) p2 = flip s p0 := by unfold step; rw [b0, if_pos h02, if_neg (nb _)]
      rw [e2]
      exact ⟨_, f0, one_ne_zero _⟩
    · have e2 : step s (flip s p0) p2 = flip (flip s p0) p2 := by unfold step; rw [b0, if_neg h02, if_pos rfl]
      rw [e2, F_flip _ _ (by rw [l0]; exact h2), f0, l0, Nat.xor_assoc]
      exact ⟨_, rfl, two_ne (by omega) (by omega) (by omega)⟩
  · have e1 : step s (flip s p0) p1 = flip (flip s p0) p1 := by unfold step; rw [b0, if_neg h01, if_pos rfl]
    have f1 := F_flip (flip s p0) p1 (by rw [l0]; exact h1)
    have l1 := flip_len (flip s p0) p1
    have b1 : ∀ q, bitOf (flip (flip s p0) p1) q = if p1 = q then !bitOf (flip s p0) q else bitOf (flip s p0) q := fun q => bit_flip (by rw [l0]; omega)
    rw [e1]
    rw [f0, l0, Nat.xor_assoc] at f1
    by_cases h2' : p0 = p2 ∨ p1 = p2
    · have hb : bitOf (flip (flip s p0) p1) p2 = !bitOf s p2 := by
        rw [b1, b0]
        rcases h2' with h | h
        · simp [h, show ¬ p1 = p2 by omega]
        · simp [h, show ¬ p0 = p2 by omega]
      have e2 : step s (flip (flip s p0) p1) p2 = flip (flip s p0) p1 := by unfold step; rw [hb, if_neg (nb _)]
      rw [e2]
      exact ⟨_, f1, two_ne (by omega) (by omega) (by omega)⟩
    · have hb : bitOf (flip (flip s p0) p1) p2 = bitOf s p2 := by
        rw [b1, b0]
        simp [show ¬ p1 = p2 by omega, show ¬ p0 = p2 by omega]
      have e2 : step s (flip (flip s p0) p1) p2 = flip (flip (flip s p0) p1) p2 := by unfold step; rw [hb, if_pos rfl]
      rw [e2, F_flip _ _ (by rw [l1, l0]; exact h2), f1, l1, l0, Nat.xor_assoc]
      exact ⟨_, rfl, three_ne _ _ _⟩
theorem pow8 {j : Nat} (h : j < 8) : 2 ^ j < 256 := Nat.pow_lt_pow_right (a := 2) (n := 8) (by decide) h
theorem shl_is {j : Nat} (h : j < 8) : shl .u8 1 (j : Int) = ((2 ^ j : Nat) : Int) := by
  have hlt := pow8 h
  unfold shl
  rw [Int.toNat_natCast, Nat.min_eq_left (show j ≤ IntKind.u8.bits by simp [IntKind.bits]; omega), IntKind.wrap_u8, Int.one_mul]
  have : ((2 : Int) ^ j) = ((2 ^ j : Nat) : Int) := by simp
  rw [this]
  generalize 2 ^ j = q at *
  omega
theorem shl_m {j : Nat} (h : j < 8) : shl .u8 1 (j : Int) = 2 ^ j % 256 := by
  have hlt := pow8 h
  rw [shl_is h]
  have : ((2 : Int) ^ j) = ((2 ^ j : Nat) : Int) := by simp
  rw [this]
  generalize 2 ^ j = q at *
  omega
theorem shr_m {j : Nat} (h : j < 8) (x : Int) : shr .u8 x (j : Int) = x / 2 ^ j := by
  unfold shr
  rw [Int.toNat_natCast, Nat.min_eq_left (show j ≤ IntKind.u8.bits by simp [IntKind.bits]; omega)]
theorem tabOr : ∀ j : Fin 8, ∀ b : Fin 256, bits .or .u8 (b.val : Int) ((2 ^ j.val : Nat) : Int) = ((if b.val.testBit j.val then b.val else b.val ^^^ 2 ^ j.val : Nat) : Int) := by decide +kernel
theorem tabNot : ∀ j : Fin 8, ∀ b : Fin 256, bits .andNot .u8 (bits .or .u8 (b.val : Int) ((2 ^ j.val : Nat) : Int)) ((2 ^ j.val : Nat) : Int) = ((if b.val.testBit j.val then b.val ^^^ 2 ^ j.val else b.val : Nat) : Int) := by decide +kernel
theorem tabBit : ∀ j : Fin 8, ∀ b : Fin 256, (bits .and .u8 (shr .u8 (b.val : Int) (j.val : Int)) 1 == 1) = b.val.testBit j.val := by decide +kernel
theorem byte_at {t : List Int} (hb : Bytes t) (q : Nat) : ∃ b : Nat, b < 256 ∧ rd t (q : Int) = (b : Int) ∧ t.getD q 0 = (b : Int) := by
  have h := hb.rd_ q
  obtain ⟨b, e⟩ := Int.eq_ofNat_of_zero_le h.1
  refine ⟨b, by omega, e, ?_⟩
  rw [← e]; unfold rd; rw [Int.toNat_natCast]
/-- The round's first store, and its second. -/
theorem or_is {s t : List Int} (hb : Bytes t) {p : Nat} (hp : p / 8 < t.length) (h : bitOf s p = false) : t.set (p / 8) (bits .or .u8 (rd t ((p / 8 : Nat) : Int)) (shl .u8 1 ((p % 8 : Nat) : Int))) = step s t p := by
  obtain ⟨b, hb1, e1, e2⟩ := byte_at hb (p / 8)
  have hj : p % 8 < 8 := Nat.mod_lt _ (by decide)
  rw [shl_is hj, e1, tabOr ⟨p % 8, hj⟩ ⟨b, hb1⟩]
  have ht : bitOf t p = b.testBit (p % 8) := by unfold bitOf; rw [e2, Int.toNat_natCast]
  unfold step
  rw [h, ht]
  cases hbt : b.testBit (p % 8)
  · simp only [Bool.false_eq_true, if_false, if_true]
    unfold Crc.flip
    rw [e2, Int.toNat_natCast]
  · simp only [if_true, Bool.true_eq_false, if_false]
    rw [← e2, List.getD_eq_getElem?_getD, List.getElem?_eq_getElem hp]
    exact List.set_getElem_self hp
theorem not_is' {s t : List Int} (hb : Bytes t) {p : Nat} (hp : p / 8 < t.length) (h : bitOf s p = true) : (t.set (p / 8) (bits .or .u8 (rd t ((p / 8 : Nat) : Int)) (shl .u8 1 ((p % 8 : Nat) : Int)))).set (p / 8) (bits .andNot .u8 (rd (t.set (p / 8) (bits .or .u8 (rd t ((p / 8 : Nat) : Int)) (shl .u8 1 ((p % 8 : Nat) : Int)))) ((p / 8 : Nat) : Int)) (shl .u8 1 ((p % 8 : Nat) : Int))) = step s t p := by
  obtain ⟨b, hb1, e1, e2⟩ := byte_at hb (p / 8)
  have hj : p % 8 < 8 := Nat.mod_lt _ (by decide)
  have er : ∀ v : Int, rd (t.set (p / 8) v) ((p / 8 : Nat) : Int) = v := fun v => by
    unfold rd; rw [Int.toNat_natCast, List.getD_eq_getElem?_getD, List.getElem?_set_self hp]; rfl
  rw [er, List.set_set, shl_is hj, e1, tabNot ⟨p % 8, hj⟩ ⟨b, hb1⟩]
  have ht : bitOf t p = b.testBit (p % 8) := by unfold bitOf; rw [e2, Int.toNat_natCast]
  unfold step
  rw [h, ht]
  cases hbt : b.testBit (p % 8)
  · simp only [Bool.false_eq_true, if_false]
    rw [← e2, List.getD_eq_getElem?_getD, List.getElem?_eq_getElem hp]
    exact List.set_getElem_self hp
  · simp only [if_true]
    unfold Crc.flip
    rw [e2, Int.toNat_natCast]
theorem bit_is {s : List Int} (hb : Bytes s) (p : Nat) : (bits .and .u8 (shr .u8 (rd s ((p / 8 : Nat) : Int)) ((p % 8 : Nat) : Int)) 1 == 1) = bitOf s p := by
  obtain ⟨b, hb1, e1, e2⟩ := byte_at hb (p / 8)
  have hj : p % 8 < 8 := Nat.mod_lt _ (by decide)
  rw [e1, tabBit ⟨p % 8, hj⟩ ⟨b, hb1⟩]
  unfold bitOf
  rw [e2, Int.toNat_natCast]
theorem alive2_calls (w : World) : Calls Try.prog 15 #[] w fun e w' => e = .returned (.bool true) ∧ Below w.heap.size w w' := decklelaw02_alive.calls true w rfl
theorem seal_calls {A : Option Addr} {c : Nat} {l : List Int} (hb : Bytes l) (hl : l.length ≤ 140737488351232) (hc : l.length ≤ c) (w : World) (hr : Kd.C (Kd.int .u8) w A l.length l) :
    Calls Try.prog 21 #[.slice A l.length c] w fun e w' => ∃ v, e = .returned v ∧ Kd.R (Kd.int .u8) 5 w' w.heap.size (fun _ => True) v (sealed l) ∧ Below w.heap.size w w' :=
  crc_Seal.calls 60 A c l (sealed l) w hr hc (cseal hb hl 60 (by omega))
theorem open_sealed {A : Option Addr} {c : Nat} {l s : List Int} (hb : Bytes l) (hs : s = sealed l) (hl : s.length ≤ 140737488351232) (hc : s.length ≤ c) (w : World) (hr : Kd.C (Kd.int .u8) w A s.length s) :
    Calls Try.prog 23 #[.slice A s.length c] w fun e w' => ∃ v, e = .returned (.tuple #[v, .bool true]) ∧ Kd.R (Kd.int .u8) 5 w' w.heap.size (fun _ => True) v l ∧ Below w.heap.size w w' := by
  have h : openS s = (l, true) := by
    rw [hs]
    unfold openS
    rw [if_pos (seal_opened l), seal_len, show l.length + 4 - 4 = l.length by omega]
    unfold sealed
    rw [List.take_left' rfl]
  exact crc_Open.calls 60 A c s l true w hr hc (by rw [copen (by rw [hs]; exact seal_bytes hb) hl 60 (by omega), h])
theorem open_not {A : Option Addr} {c : Nat} {t : List Int} (hb : Bytes t) (ho : ¬ opened t) (hl : t.length ≤ 140737488351232) (hc : t.length ≤ c) (w : World) (hr : Kd.C (Kd.int .u8) w A t.length t) :
    Calls Try.prog 23 #[.slice A t.length c] w fun e w' => ∃ v, e = .returned (.tuple #[v, .bool false]) ∧ Kd.R (Kd.int .u8) 5 w' w.heap.size (fun _ => True) v [] ∧ Below w.heap.size w w' :=
  crc_Open.calls 60 A c t [] false w hr hc (by rw [copen hb hl 60 (by omega)]; unfold openS; rw [if_neg ho])
theorem open_not' {A : Option Addr} {c n B : Nat} {t : List Int} (hb : Bytes t) (ho : ¬ opened t) (hl : n ≤ 140737488351232) (hn : t.length = n) {w : World} (hr : Kd.R (Kd.int .u8) 5 w B (fun _ => True) (.slice A n c) t) :
    Calls Try.prog 23 #[.slice A n c] w fun e w' => ∃ v, e = .returned (.tuple #[v, .bool false]) ∧ Kd.R (Kd.int .u8) 5 w' w.heap.size (fun _ => True) v [] ∧ Below w.heap.size w w' := by
  subst hn
  exact open_not hb ho hl (Kd.R_reads' hr).2.1 w (Kd.R_reads' hr).2.2
theorem box_below (w : World) (t : TypeId) (x0 x1 x2 : Int) (w1 : World) (b : Below (w.alloc (Obj.cells #[Value.int IntKind.i64 x0, Value.int IntKind.i64 x1, Value.int IntKind.i64 x2] t)).heap.size (w.alloc (Obj.cells #[Value.int IntKind.i64 x0, Value.int IntKind.i64 x1, Value.int IntKind.i64 x2] t)) w1) :
    w1.cell? ⟨w.heap.size, 0, none⟩ = some (.int .i64 x0) ∧ w1.cell? ⟨w.heap.size, 1, none⟩ = some (.int .i64 x1) ∧ w1.cell? ⟨w.heap.size, 2, none⟩ = some (.int .i64 x2) := by
  have hlt : w.heap.size < (w.alloc (Obj.cells #[Value.int IntKind.i64 x0, Value.int IntKind.i64 x1, Value.int IntKind.i64 x2] t)).heap.size := by rw [World.size_alloc]; omega
  refine ⟨?_, ?_, ?_⟩ <;> rw [b.cell hlt, World.cell?_alloc_at _ _ _ _ rfl] <;> rfl
theorem box_keep {n : Nat} {x0 x1 x2 : Int} {w1 w2 : World} {B : Nat} (h : w1.cell? ⟨n, 0, none⟩ = some (.int .i64 x0) ∧ w1.cell? ⟨n, 1, none⟩ = some (.int .i64 x1) ∧ w1.cell? ⟨n, 2, none⟩ = some (.int .i64 x2)) (b : Below B w1 w2) (hB : n < B) :
    w2.cell? ⟨n, 0, none⟩ = some (.int .i64 x0) ∧ w2.cell? ⟨n, 1, none⟩ = some (.int .i64 x1) ∧ w2.cell? ⟨n, 2, none⟩ = some (.int .i64 x2) := by
  obtain ⟨h0, h1, h2⟩ := h
  exact ⟨by rw [b.cell hB]; exact h0, by rw [b.cell hB]; exact h1, by rw [b.cell hB]; exact h2⟩
theorem arr3' {α : Type} {zs : List α} (h : zs.length = 3) : ∃ a b c, zs = [a, b, c] := by
  match zs, h with
  | [a, b, c], _ => exact ⟨a, b, c, rfl⟩
theorem idx3 (x0 x1 x2 : Int) (k : Nat) (hk : k < 3) : ∃ x, ∀ w' : World, (Instr.index 35 (Value.agg #[Value.int IntKind.i64 x0, Value.int IntKind.i64 x1, Value.int IntKind.i64 x2]) (Value.int IntKind.i64 (k : Int))).run Try.prog w' = .ok (.int .i64 x) w' := by
  match k, hk with
  | 0, _ => exact ⟨x0, fun w' => rfl⟩
  | 1, _ => exact ⟨x1, fun w' => rfl⟩
  | 2, _ => exact ⟨x2, fun w' => rfl⟩
set_option maxHeartbeats 4000000 in
theorem crcTurns_calls (A0 : Option Addr) (c0 : Nat) (l : List Int) (x0 x1 x2 : Int) (w : World) (hr0 : Kd.C (Kd.int .u8) w A0 l.length l) (hc0 : l.length ≤ c0) (hb0 : Bytes l) (hl0 : l.length ≤ 140737488351232) :
    Calls Try.prog 7 #[.slice A0 l.length c0, .agg #[.int .i64 x0, .int .i64 x1, .int .i64 x2]] w fun e w' => e = .returned (.bool true) ∧ Below w.heap.size w w' := by
  have HR0 := Aside0.mk hr0
  have HB0 := Aside0.mk hb0
  clear hr0 hb0
  obtain ⟨s, hs⟩ : ∃ s, s = sealed l := ⟨_, rfl⟩
  have hsl : s.length = l.length + 4 := by rw [hs, seal_len]
  have HS := Aside0.mk hs
  have HSB := Aside0.mk (show Bytes s by rw [hs]; exact seal_bytes HB0.out)
  have HSL := Aside0.mk hsl
  have HSE : ∀ w', Kd.C (Kd.int .u8) w' A0 l.length l → _ := fun w' h => seal_calls HB0.out hl0 hc0 w' h
  rw [← hs] at HSE
  replace HSE := Aside0.mk HSE
  clear hs
  by_cases hbig : 3000 < l.length
  · have t1 : decide ((3000 : Int) < (l.length : Int)) = true := decide_eq_true (by omega)
    have t2 : decide (3000 < l.length) = true := decide_eq_true hbig
    go_enter Try.func7, Try.ntmps7
    go_wp2_with fail
    refine (HSE.out _ (Kd.C_alloc HR0.out _)).mono ?_
    rintro e w1 ⟨v1, rfl, hv1, b1⟩
    go_wp2_with fail
    refine (alive2_calls _).mono ?_
    rintro e w2 ⟨rfl, b2⟩
    go_wp2
    go_ret
    exact ⟨rfl, below_step (below_step (below_alloc (Below.refl _ _) _) b1) b2⟩
  · have t1 : decide ((3000 : Int) < (l.length : Int)) = false := decide_eq_false (by omega)
    have t2 : decide (3000 < l.length) = false := decide_eq_false (by omega)
    go_enter Try.func7, Try.ntmps7
    go_wp2_with fail
    refine (HSE.out _ (Kd.C_alloc HR0.out _)).mono ?_
    rintro e w1 ⟨v1, rfl, hv1, b1⟩
    have HCL := Aside0.mk (box_below w _ x0 x1 x2 w1 b1)
    have HB1 := Aside0.mk (below_step (below_alloc (Below.refl _ _) _) b1)
    have HSZ := Aside0.mk (show w.heap.size < w1.heap.size from Nat.lt_of_lt_of_le (by rw [World.size_alloc]; omega) b1.size)
    obtain ⟨A1, c1, rfl⟩ := Kd.R_slice hv1
    have hC1 := (Kd.R_reads' hv1).2.2
    have hc1 := (Kd.R_reads' hv1).2.1
    clear hv1 b1
    have HOP := Aside0.mk (fun w' h => open_sealed (A := A1) HB0.out HS.out (by omega) hc1 w' h)
    have t3 : ((s.length : Int) != (l.length : Int) + 4) = false := bne_eq_false_iff_eq.mpr (by omega)
    have hs4 : 4 ≤ s.length := by omega
    have hs3 : s.length ≤ 3004 := by omega
    clear hsl
    have HC1 := Aside0.mk hC1
    have HCC := Aside0.mk hc1
    clear hC1 hc1 HSE
    go_wp2_with fail
    refine (HOP.out _ HC1.out).mono ?_
    rintro e w2 ⟨v2, rfl, hv2, b2⟩
    have HB2 := Aside0.mk (below_step HB1.out b2)
    have HC2 := Aside0.mk (Kd.C_below HC1.out b2)
    have HV2 := Aside0.mk (show Kd.R (Kd.int .u8) 5 w2 w.heap.size (fun _ => True) v2 l from Kd.R_lower hv2 (Nat.le_of_lt HSZ.out))
    have HCL2 := Aside0.mk (box_keep HCL.out b2 HSZ.out)
    have HSZ2 := Aside0.mk (Nat.lt_of_lt_of_le HSZ.out b2.size)
    have HR2 := Aside0.mk (Kd.C_below HR0.out HB2.out)
    clear hv2 b2 HCL HB1 HC1 HSZ
    obtain ⟨A2, c2, rfl⟩ := Kd.R_slice HV2.out
    go_wp2_with (first | ((with_reducible refine gate_dst (N := 38) rfl ?_); (try (refine gate_guard (by rfl) ?_; dsimp only)); refine Kd.R_lit (Kd.int .u8) _ 5 ?hg (N := 38) ?hd (xs := ([] : List Int)) (inner := []) (ok := fun _ => True) (okp := fun _ => True) ?hr ?hp (fun _ hk => hk) trivial (Below.refl _ _) (Nat.le_refl _) (by simp) ?_; (case hd => rfl); (case hg => rfl); (case hr => first | (go_simp; done) | (go_simp; rfl)); (case hp => exact (Reps.none _ _)); intro v3 w3 ho3 hb3 hg3 hnew3; have HC3 := Aside0.mk (Kd.C_below HC2.out hb3); have HO3 := Aside0.mk ho3; have HB3 := Aside0.mk hb3; clear ho3 hb3 hg3 hnew3) | ((with_reducible refine gate_builtin (b := .append) (xs := #[.tmp 38, .tmp 39]) rfl ?_); (try (refine gate_guard (by rfl) ?_; dsimp only)); at_builtin; refine Kd.R_append_rows (Kd.int .u8) (w0 := w2) w2.heap.size rfl (.tmp 38) (.tmp 39) 22 5 (.int .u8 0) 1 rfl Try.underlying22 info8 rfl (by decide) (by omega) _ [] s A1 _ c1 (fun _ => True) (fun _ => False) rfl rfl ?aO ?aR (fun _ _ h => h) (fun _ h => h.elim) ?aF ?aB ?aS ?aL ?_; (case aO => exact HO3.out); (case aR => exact HC3.out); (case aF => exact fun _ _ => trivial); (case aB => exact HB3.out); (case aS => exact HB3.out.size); (case aL => simp; omega); intro v4 w4 ho4 hb4 hg4 hat4; obtain ⟨hx0, hx1, hx2⟩ := box_keep HCL2.out hb4 HSZ2.out; rw [List.nil_append] at ho4; obtain ⟨A4, c4, rfl⟩ := Kd.R_slice ho4; have HO4 := Aside0.mk ho4; have HB4 := Aside0.mk hb4; clear ho4 hb4 hg4 hat4))
    clear hx0 hx1 hx2
    go_loopw [42] (fun i wr => ∃ (k : Nat) (ps : List Nat), k ≤ 3 ∧ i = .int .i64 (k : Int) ∧ Aside0 (ps.length = k ∧ ∀ p ∈ ps, p < 8 * s.length) ∧ Aside0 (Kd.R (Kd.int .u8) 5 wr w2.heap.size (fun _ => True) (.slice A4 s.length c4) (ps.foldl (step s) s)) ∧ Aside0 (Below w2.heap.size w2 wr)) (fun i _ => 3 - (intOf i).toNat)
    case atStart => exact ⟨0, [], by omega, rfl, ⟨rfl, by simp⟩, ⟨HO4.out⟩, ⟨HB4.out⟩⟩
    case round =>
      obtain ⟨k, ps, hk, rfl, HP, HO, HB⟩ := hrel
      have HTL := Aside0.mk (show (ps.foldl (step s) s).length = s.length ∧ Bytes (ps.foldl (step s) s) from by
        clear HO HP
        suffices ∀ (qs : List Nat) (t : List Int), t.length = s.length → Bytes t → (qs.foldl (step s) t).length = s.length ∧ Bytes (qs.foldl (step s) t) from this ps s rfl HSB.out
        intro qs
        induction qs with
        | nil => intro t h1 h2; exact ⟨h1, h2⟩
        | cons q qs ih => intro t h1 h2; exact ih _ (by rw [step_len, h1]) (step_bytes h2 q))
      have HPS := Aside0.mk (show ∀ q, (ps ++ [q]).foldl (step s) s = step s (ps.foldl (step s) s) q from fun q => by rw [List.foldl_append]; rfl)
      have HTE : Aside0 (∃ d, F (ps.foldl (step s) s) = F s ^^^ d ∧ (k = 3 → d ≠ 0)) := ⟨by
        by_cases h3 : k = 3
        · obtain ⟨hpl, hpm⟩ := HP.out
          rw [h3] at hpl
          obtain ⟨p0, p1, p2, rfl⟩ := arr3' hpl
          obtain ⟨d, h1, h2⟩ := turned (s := s) (p0 := p0) (p1 := p1) (p2 := p2) rfl (by omega) (hpm _ (by simp)) (hpm _ (by simp)) (hpm _ (by simp))
          exact ⟨d, h1, fun _ => h2⟩
        · exact ⟨F s ^^^ F (ps.foldl (step s) s), by rw [← Nat.xor_assoc, Nat.xor_self, Nat.zero_xor], fun h => absurd h h3⟩⟩
      generalize ps.foldl (step s) s = t at HO HTL HPS HTE
      by_cases hlt : k < 3
      · have u1 : decide ((k : Int) < 3) = true := decide_eq_true (by omega)
        have u2 : decide (k < 3) = true := decide_eq_true hlt
        have hmax : (k : Int) + 1 ≤ 9223372036854775807 := by omega
        have HLT := Aside0.mk hlt
        obtain ⟨x, hx⟩ := idx3 x0 x1 x2 k hlt
        obtain ⟨u, hu⟩ := Int.eq_ofNat_of_zero_le (show 0 ≤ IntKind.u64.wrap x by rw [u64_wrap]; omega)
        have hu' := hu
        rw [u64_wrap] at hu'
        have hpl : u % (8 * s.length) < 8 * s.length := Nat.mod_lt _ (by omega)
        have hpm : Int.tmod (u : Int) (8 * (s.length : Int)) = ((u % (8 * s.length) : Nat) : Int) := by rw [Int.tmod_eq_emod_of_nonneg (by omega)]; rfl
        generalize u % (8 * s.length) = p at hpl hpm
        have hz0 : ¬ (8 * (s.length : Int) = 0) := by omega
        have hz : ((8 * (s.length : Int)) == 0) = false := beq_eq_false_iff_ne.mpr hz0
        have hq : Int.tdiv (p : Int) 8 = ((p / 8 : Nat) : Int) := by rw [Int.tdiv_eq_ediv_of_nonneg (by omega)]; rfl
        have hm : Int.tmod (p : Int) 8 = ((p % 8 : Nat) : Int) := by rw [Int.tmod_eq_emod_of_nonneg (by omega)]; rfl
        have hql : p / 8 < s.length := by omega
        have hqb : p / 8 < 1000000 := by omega
        have hml : p % 8 < 8 := Nat.mod_lt _ (by decide)
        have HOR := Aside0.mk (show bitOf s p = false → _ from or_is (s := s) (t := t) HTL.out.2 (by rw [HTL.out.1]; omega))
        have HNO := Aside0.mk (show bitOf s p = true → _ from not_is' (s := s) (t := t) HTL.out.2 (by rw [HTL.out.1]; omega))
        have HBI := Aside0.mk (bit_is HSB.out p)
        have HPB := Aside0.mk hpl
        have hpb : p < 1000000 := by omega
        generalize p / 8 = q at *
        generalize p % 8 = m at *
        clear hpl
        go_wp2_with fail
        have htl := HTL.out.1
        obtain ⟨go, c5, e5, gb, gl, cl, HG⟩ := Kd.R_form HO.out (by omega)
        injection e5 with ea en ec
        subst ea
        subst ec
        clear en
        have GB := Aside0.mk gb
        clear gb gl HG htl
        obtain ⟨hcx, hfx⟩ := Kd.R_celln 0 (Kd.R_drew HO.out) (q : Int) (by omega) (by omega)
        rw [Int.toNat_natCast] at hcx hfx
        have hq0 : (0 ≤ (q : Int)) = True := eq_true (by omega)
        have hq1 : ((q : Int) < (s.length : Int)) = True := eq_true (by omega)
        have hm0 : (0 ≤ (m : Int)) = True := eq_true (by omega)
        obtain ⟨O, hO⟩ : ∃ O, O = bits .or .u8 (rd t (q : Int)) (shl .u8 1 (m : Int)) := ⟨_, rfl⟩
        have HOE := Aside0.mk hO
        have HOV := Aside0.mk (show bits .or .u8 (rdOf 0 t (q : Int)) (2 ^ m % 256) = O from by rw [hO, shl_m hml]; rfl)
        clear hO
        have HPT := Aside0.mk (show Kd.R (Kd.int .u8) 5 (wr.setCell ⟨go, q, none⟩ (.int .u8 O)) w2.heap.size (fun _ => True) (.slice (some ⟨go, 0, none⟩) s.length c4) (t.set q O) from Kd.R_putn HO.out (q : Int) O)
        have HBT := Aside0.mk (show Below w2.heap.size w2 (wr.setCell ⟨go, q, none⟩ (.int .u8 O)) from below_set HB.out GB.out)
        go_region
        rw [HOV.out]
        have HPT := Aside0.mk (Kd.R_drew HPT.out)
        have HBT := Aside0.mk (below_drew1 HBT.out)
        clear hcx hfx HO HB
        generalize (wr.setCell ⟨go, q, none⟩ (.int .u8 O)).drew = W2 at *
        obtain ⟨ad, e, hxs⟩ := Kd.at_int (Kd.C_below HC2.out HBT.out) (q : Int) (by omega) (by omega)
        cases e
        rw [Int.toNat_natCast] at hxs
        obtain ⟨sb, hsb⟩ : ∃ sb, sb = rd s (q : Int) := ⟨_, rfl⟩
        have HSBB := Aside0.mk hsb
        rw [← hsb] at hxs
        clear hsb
        obtain ⟨y, hy⟩ : ∃ y, sb / 2 ^ m = y := ⟨_, rfl⟩
        have HYB := Aside0.mk (show (bits .and .u8 y 1 == 1) = bitOf s p from by rw [← HBI.out, ← HSBB.out, shr_m hml, hy])
        cases hbit : bitOf s p
        · have hyb : (bits .and .u8 y 1 == 1) = false := by rw [HYB.out, hbit]
          go_wp2_with fail
          go_roundw
          case rel => exact ⟨k + 1, ps ++ [p], HLT.out, by go_num, ⟨by rw [List.length_append, HP.out.1]; rfl, fun x hx => (List.mem_append.1 hx).elim (HP.out.2 x) (fun h => by rw [List.mem_singleton.1 h]; exact HPB.out)⟩, ⟨by rw [HPS.out, ← HOR.out hbit, ← HOE.out]; exact HPT.out⟩, ⟨HBT.out⟩⟩
          case measure => have := HLT.out; simp [intOf]; omega
        · have hyb : (bits .and .u8 y 1 == 1) = true := by rw [HYB.out, hbit]
          go_wp2_with fail
          obtain ⟨hcx, hfx⟩ := Kd.R_celln 0 (Kd.R_drew HPT.out) (q : Int) (by omega) (by omega)
          rw [Int.toNat_natCast] at hcx hfx
          obtain ⟨N, hN⟩ : ∃ N, N = bits .andNot .u8 (rd (t.set q O) (q : Int)) (shl .u8 1 (m : Int)) := ⟨_, rfl⟩
          have HNE := Aside0.mk hN
          have HNV := Aside0.mk (show bits .andNot .u8 (rdOf 0 (t.set q O) (q : Int)) (2 ^ m % 256) = N from by rw [hN, shl_m hml]; rfl)
          clear hN
          have HPN := Aside0.mk (show Kd.R (Kd.int .u8) 5 (W2.setCell ⟨go, q, none⟩ (.int .u8 N)) w2.heap.size (fun _ => True) (.slice (some ⟨go, 0, none⟩) s.length c4) ((t.set q O).set q N) from Kd.R_putn HPT.out (q : Int) N)
          have HBN := Aside0.mk (show Below w2.heap.size w2 (W2.setCell ⟨go, q, none⟩ (.int .u8 N)) from below_set HBT.out GB.out)
          go_region
          rw [HNV.out]
          have HPN := Aside0.mk (Kd.R_drew HPN.out)
          have HBN := Aside0.mk (below_drew1 HBN.out)
          clear hcx hfx HPT HBT
          generalize (W2.setCell ⟨go, q, none⟩ (.int .u8 N)).drew = W3 at *
          go_wp2_with fail
          go_roundw
          case rel => exact ⟨k + 1, ps ++ [p], HLT.out, by go_num, ⟨by rw [List.length_append, HP.out.1]; rfl, fun x hx => (List.mem_append.1 hx).elim (HP.out.2 x) (fun h => by rw [List.mem_singleton.1 h]; exact HPB.out)⟩, ⟨by rw [HPS.out, ← HNO.out hbit, ← HOE.out, ← HNE.out]; exact HPN.out⟩, ⟨HBN.out⟩⟩
          case measure => have := HLT.out; simp [intOf]; omega
      · have u1 : decide ((k : Int) < 3) = false := decide_eq_false (by omega)
        have u2 : decide (k < 3) = false := decide_eq_false hlt
        obtain rfl : k = 3 := by omega
        have HNOT := Aside0.mk (show ¬ opened t by
          obtain ⟨d, h1, h2⟩ := HTE.out
          exact not_opened HSB.out HTL.out.2 (by rw [HS.out]; exact seal_opened l) h1 (h2 rfl))
        have HOT := Aside0.mk (open_not' HTL.out.2 HNOT.out (by omega) HTL.out.1 HO.out)
        go_wp2_with fail
        refine HOT.out.mono ?_
        rintro e w5 ⟨v5, rfl, hv5, b5⟩
        have HB5 := Aside0.mk (below_step HB.out b5)
        obtain ⟨A5, c5, rfl⟩ := Kd.R_slice hv5
        clear hv5 b5 HOT HB HO
        go_wp2_with fail
        refine (alive2_calls _).mono ?_
        rintro e w6 ⟨rfl, b6⟩
        have HB6 := Aside0.mk (below_step HB5.out b6)
        clear b6 HB5
        have hk1 := Kd.C_string (P := Try.prog) (A := A2) (c := c2) Try.underlying22 Try.underlying5 Try.underlying9 (Kd.C_below (Kd.R_reads' HV2.out).2.2 HB6.out)
        have hk2 := Kd.C_string (P := Try.prog) (A := A0) (c := c0) Try.underlying22 Try.underlying5 Try.underlying9 (Kd.C_below HR2.out HB6.out)
        go_wp2
        go_ret
        exact ⟨by first | rfl | simp, below_step HB2.out HB6.out⟩
end Go.Proofs.Ytkngkjgapgnmbaa.Ct
