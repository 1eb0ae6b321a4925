import Derived.Test.YtciolchdihlgfaaGreatDoorTxB
/-! Numbers written: strconv.FormatUint at base 16. -/
namespace Go.Proofs.YtciolchdihlgfaaGreatDoor.Tx
open Go.RowKit Go.Proofs.YtciolchdihlgfaaGreatDoorW.PrintWords Go.Proofs.YtciolchdihlgfaaGreatDoorW.PrintLast Go.Proofs.YtciolchdihlgfaaGreatDoorW.PrintMore Go.Proofs.YtciolchdihlgfaaGreatDoor.Wire Go.Proofs.YtciolchdihlgfaaGreatDoor.PCo Go.Proofs.YtciolchdihlgfaaGreatDoor.Co Go.Proofs.YtciolchdihlgfaaGreatDoor.Ce Go.Proofs.YtciolchdihlgfaaGreatDoor.Num
set_option linter.unusedVariables false
set_option linter.unusedSimpArgs false
set_option maxRecDepth 100000
/-- The one number that is read of math/bits.deBruijn64tab. -/
structure BitW (w : World) : Prop where
  cell : w.cell? ⟨9, 15, none⟩ = some (.int .u8 4)
  lt : 9 < w.heap.size
theorem BitW.below {w w' : World} (h : BitW w) (hb : Below w.heap.size w w') : BitW w' := by
  refine ⟨?_, Nat.lt_of_lt_of_le h.lt hb.size⟩
  have hc := h.cell
  unfold World.cell? at hc ⊢
  rw [hb.block _ h.lt]
  exact hc
theorem tz64 (w : World) (hB : BitW w) : Calls Tryz.prog 207 #[.int .u64 16] w fun e w' => e = .returned (.int .i64 4) ∧ w = w' := by
  have c1 := hB.cell
  have h1 : bits .and .u64 16 (IntKind.u64.wrap (-16)) = 16 := by decide +kernel
  clear hB
  go_enter Tryz.func207, Tryz.ntmps207
  go_wp2
  go_ret
  exact ⟨rfl, rfl⟩
theorem tz (w : World) (hB : BitW w) : Calls Tryz.prog 195 #[.int .u64 16] w fun e w' => e = .returned (.int .i64 4) ∧ w = w' := by
  have HT := Aside0.mk (tz64 w hB)
  clear hB
  go_enter Tryz.func195, Tryz.ntmps195
  go_wp2_with fail
  refine HT.out.mono ?_
  rintro e w' ⟨rfl, rfl⟩
  go_wp2_with fail
  go_ret
  exact ⟨rfl, rfl⟩
theorem pow2_calls (w : World) : Calls Tryz.prog 194 #[.int .i64 16] w fun e w' => e = .returned (.bool true) ∧ w = w' := by
  have h1 : bits .and .i64 16 15 = 0 := by decide +kernel
  go_enter Tryz.func194, Tryz.ntmps194
  go_wp2
  go_ret
  exact ⟨rfl, rfl⟩
/-- The bytes so far: p noughts, then these. -/
def buf (p : Nat) (L : List UInt8) : Array Value := (List.replicate p (Value.int .u8 0) ++ L.map encB).toArray
theorem buf_put (p : Nat) (c : UInt8) (L : List UInt8) : (buf (p + 1) L).setIfInBounds p (.int .u8 (c.toNat : Int)) = buf p (c :: L) := by
  unfold buf
  rw [List.setIfInBounds_toArray]
  congr 1
  rw [List.replicate_succ', List.append_assoc, List.set_append_right _ _ (by simp), List.length_replicate, Nat.sub_self]
  rfl
theorem buf_at (p : Nat) (L : List UInt8) : (buf (p + 1) L)[p]? = some (.int .u8 0) := by
  unfold buf
  rw [List.getElem?_toArray, List.getElem?_append_left (by simp), List.getElem?_replicate, if_pos (by omega)]
theorem buf_get (p : Nat) (L : List UInt8) (j : Nat) (h : j < L.length) : (buf p L)[p + j]? = some (.int .u8 (L[j].toNat : Int)) := by
  unfold buf
  rw [List.getElem?_toArray, List.getElem?_append_right (by simp), List.length_replicate, show p + j - p = j by omega, List.getElem?_map, List.getElem?_eq_getElem h]
  rfl
abbrev D36 : ByteArray := ⟨#[48, 49, 50, 51, 52, 53, 54, 55, 56, 57, 97, 98, 99, 100, 101, 102, 103, 104, 105, 106, 107, 108, 109, 110, 111, 112, 113, 114, 115, 116, 117, 118, 119, 120, 121, 122]⟩
theorem d36_fin : ∀ d : Fin 16, ((D36[d.val]'(Nat.lt_trans d.isLt (by decide))).toNat : Int) = ((hd d.val).toNat : Int) := by decide +kernel
theorem d36_at {d : Nat} (h : d < 16) : ((D36[d]'(Nat.lt_trans h (by decide))).toNat : Int) = ((hd d).toNat : Int) := d36_fin ⟨d, h⟩
theorem and15 (x : Nat) (h : x < 18446744073709551616) : bits .and .u64 (x : Int) 15 = ((x % 16 : Nat) : Int) := by
  have := bits_mask .u64 64 (by decide) wraps_u64 4 (by decide) (x : Int) (by omega) (by omega)
  simpa using this
theorem buf_65 : buf 65 [] = Tryz.zeroCells246 := by rfl
/-- What is left may have so many digits. -/
def lim (p : Nat) : Nat := 16 ^ (p - 49)
theorem lim_65 : lim 65 = 18446744073709551616 := by unfold lim; decide
theorem lim_50 : lim 50 = 16 := by unfold lim; decide
theorem lim_succ {p : Nat} (h : 50 ≤ p) : lim (p + 1) = lim p * 16 := by unfold lim; rw [show p + 1 - 49 = (p - 49) + 1 by omega, Nat.pow_succ]
theorem lim_le {p : Nat} (h : p ≤ 65) : lim p ≤ 18446744073709551616 := by
  rw [← lim_65]
  unfold lim
  exact Nat.pow_le_pow_right (by decide) (by omega)
attribute [local irreducible] lim
theorem lim_step {x p : Nat} (hx : 16 ≤ x) (h50 : 50 ≤ p + 1) (hp : p ≤ 64) (h : x < lim (p + 1)) : x < 18446744073709551616 ∧ x / 16 < lim p ∧ 50 ≤ p := by
  have h1 := lim_le (p := p + 1) (by omega)
  by_cases e : p = 49
  · subst e
    rw [lim_50] at h
    omega
  · rw [lim_succ (by omega)] at h
    exact ⟨by rw [lim_succ (by omega)] at h1; omega, by omega, by omega⟩
set_option maxHeartbeats 8000000 in
theorem bits16 (n : Nat) (hn : n < 18446744073709551616) (w : World) (hB : BitW w) :
    Calls Tryz.prog 162 #[.slice none 0 0, .int .u64 (n : Int), .int .i64 16, .bool false, .bool false] w fun e w' => e = .returned (.tuple #[.slice none 0 0, .string ⟨(hexD n).toArray⟩]) ∧ Below w.heap.size w w' := by
  have HB := Aside0.mk (below_alloc (Below.refl w.heap.size w) (.cells (buf 65 []) 246))
  have HH := Aside0.mk (heap_alloc_new w (.cells (buf 65 []) 246))
  have HP := Aside0.mk (fun W => pow2_calls W)
  have HT := Aside0.mk (fun W (hb : Below w.heap.size w W) => tz W (hB.below hb))
  have HNN := Aside0.mk hn
  clear hn hB
  go_enter Tryz.func162, Tryz.ntmps162
  go_wp2_with fail
  rw [← buf_65]
  obtain ⟨W0, hW0⟩ : ∃ W0, w.alloc (.cells (buf 65 []) 246) = W0 := ⟨_, rfl⟩
  rw [hW0] at HB HH ⊢
  clear hW0
  refine (HP.out _).mono ?_
  rintro e w1 ⟨rfl, rfl⟩
  clear HP
  go_wp2_with fail
  refine (HT.out _ HB.out).mono ?_
  rintro e w1 ⟨rfl, rfl⟩
  clear HT
  go_wp2_with fail
  obtain ⟨bl, hbl⟩ : ∃ bl, w.heap.size = bl := ⟨_, rfl⟩
  rw [hbl] at HH ⊢
  have HBL := Aside0.mk hbl
  clear hbl
  go_loopw [1, 13] (fun u i wr => ∃ (x p : Nat) (L : List UInt8), u = .int .u64 (x : Int) ∧ i = .int .i64 (p : Int) ∧ Aside0 (p + L.length = 65 ∧ 50 ≤ p ∧ x < lim p) ∧ Aside0 (hexD n = hexD x ++ L) ∧ Aside0 (wr.heap[bl]? = some (.cells (buf p L) 246 (0, 0))) ∧ Aside0 (Below w.heap.size w wr)) (fun u _ _ => (intOf u).toNat)
  case atStart => exact ⟨n, 65, [], rfl, rfl, ⟨rfl, by decide, by rw [lim_65]; exact HNN.out⟩, ⟨by rw [List.append_nil]⟩, ⟨HH.out⟩, ⟨HB.out⟩⟩
  case round =>
    clear HB HH
    obtain ⟨x, p, L, rfl, rfl, HX, HE, HH, HB⟩ := hrel
    obtain ⟨p, rfl⟩ : ∃ q, p = q + 1 := ⟨p - 1, by have := HX.out.2.1; omega⟩
    have HPB := Aside0.mk (show p ≤ 64 from by have := HX.out.1; omega)
    have w1n : wrap64 (p : Int) = (p : Int) := Ce.w64 (by omega) (by have := HPB.out; omega)
    have c0 : wr.cell? ⟨bl, p, none⟩ = some (.int .u8 0) := (blk_cell HH.out p).trans (buf_at p L)
    have f0 := blk_frozen HH.out p
    have q0 : (0 ≤ (p : Int)) = True := eq_true (by omega)
    have q1 : ((p : Int) < 65) = True := eq_true (by have := HPB.out; omega)
    have q2 : (p < 65) = True := eq_true (by have := HPB.out; omega)
    by_cases hx : 16 ≤ x
    · have u1 : decide ((16 : Int) ≤ (x : Int)) = true := decide_eq_true (by omega)
      have u2 : decide (16 ≤ x) = true := decide_eq_true hx
      have u3 : decide ((x : Int) ≥ 16) = true := decide_eq_true (by omega)
      have HXB := Aside0.mk (lim_step hx HX.out.2.1 HPB.out HX.out.2.2)
      have HE2 := Aside0.mk (show hexD n = hexD (x / 16) ++ (hd (x % 16) :: L) from by rw [HE.out, hexD_step (by omega), List.append_assoc]; rfl)
      obtain ⟨y, hy⟩ : ∃ y, x % 16 = y := ⟨_, rfl⟩
      have hy16 : y < 16 := by omega
      have ha : bits .and .u64 (x : Int) 15 = (y : Int) := by rw [and15 x HXB.out.1, hy]
      rw [hy] at HE2
      obtain ⟨z, hz⟩ : ∃ z : Nat, ∀ h : y < D36.size, ((D36[y]'h).toNat : Int) = (z : Int) := ⟨(hd y).toNat, fun h => d36_at hy16⟩
      have HZ := Aside0.mk (show z = (hd y).toNat from by have := hz (Nat.lt_trans hy16 (by decide)); rw [d36_at hy16] at this; omega)
      have r0 : (0 ≤ (y : Int)) = True := eq_true (by omega)
      have r1 : ((y : Int) < 36) = True := eq_true (by omega)
      have r2 : (y < 36) = True := eq_true (by omega)
      have HX16 := Aside0.mk hx
      clear hx hy hy16
      go_wp2_with fail
      go_roundw
      case rel => exact ⟨x / 16, p, hd y :: L, congrArg (Value.int .u64) (Int.natCast_ediv x 16).symm, by go_num, ⟨by rw [List.length_cons]; have := HX.out.1; omega, HXB.out.2.2, HXB.out.2.1⟩, ⟨HE2.out⟩, ⟨by rw [← buf_put, ← HZ.out]; exact blk_put HH.out p _ rfl⟩, ⟨HB.out.setCell (by rw [← HBL.out]; exact Nat.le_refl _) _⟩⟩
      case measure => have := HX16.out; simp [intOf]; omega
    · have u1 : decide ((16 : Int) ≤ (x : Int)) = false := decide_eq_false (by omega)
      have u2 : decide (16 ≤ x) = false := decide_eq_false hx
      have u3 : decide ((x : Int) ≥ 16) = false := decide_eq_false (by omega)
      have hx16 : x < 16 := by omega
      have HE2 := Aside0.mk (show hexD n = hd x :: L from by rw [HE.out, hexD_one hx16]; rfl)
      obtain ⟨z, hz⟩ : ∃ z : Nat, ∀ h : x < D36.size, ((D36[x]'h).toNat : Int) = (z : Int) := ⟨(hd x).toNat, fun h => d36_at hx16⟩
      have HZ := Aside0.mk (show z = (hd x).toNat from by have := hz (Nat.lt_trans hx16 (by decide)); rw [d36_at hx16] at this; omega)
      have r0 : (0 ≤ (x : Int)) = True := eq_true (by omega)
      have r1 : ((x : Int) < 36) = True := eq_true (by omega)
      have r2 : (x < 36) = True := eq_true (by omega)
      have HH2 := Aside0.mk (show (wr.setCell ⟨bl, p, none⟩ (.int .u8 (z : Int))).heap[bl]? = some (.cells (buf p (hd x :: L)) 246 (0, 0)) from by rw [← buf_put, ← HZ.out]; exact blk_put HH.out p _ rfl)
      have HB2 := Aside0.mk (show Below w.heap.size w (wr.setCell ⟨bl, p, none⟩ (.int .u8 (z : Int))) from HB.out.setCell (by rw [← HBL.out]; exact Nat.le_refl _) _)
      clear hx hx16
      have hlen : Tryz.prog.arrayLen 246 = 65 := by kernel_rfl
      have hsl : ∀ W, (Instr.sliceAt 246 (.pointer (some ⟨bl, 0, none⟩)) (some (.int .i64 (p : Int))) none none).run Tryz.prog W = .ok (.slice (some ⟨bl, p, none⟩) (65 - p) (65 - p)) W := fun W => by
        rw [run_sliceAt_array_l W 246 ⟨bl, 0, none⟩ (by kernel_rfl) .i64 (p : Int) (by omega) (by rw [hlen]; have := HPB.out; omega)]
        go_simp
        intro h65
        have := HPB.out
        omega
      have hcv := run_convert_bytes_back (P := Tryz.prog) (wr.setCell ⟨bl, p, none⟩ (.int .u8 (z : Int))) 172 9 5 ⟨bl, p, none⟩ (65 - p) (hd x :: L) Tryz.underlying172 Tryz.underlying5 Tryz.underlying9 (fun j hj => by
        rw [Lib.add_plain, blk_cell HH2.out (p + j)]
        exact buf_get p (hd x :: L) j hj)
      rw [show (hd x :: L).length = 65 - p from by rw [List.length_cons]; have := HX.out.1; omega, ← HE2.out] at hcv
      clear hlen
      go_wp2_with fail
      go_ret2
      exact ⟨rfl, HB2.out⟩
theorem ifmt16 (n : Nat) (hn : n < 18446744073709551616) (w : World) (hB : BitW w) :
    Calls Tryz.prog 136 #[.int .u64 (n : Int), .int .i64 16] w fun e w' => e = .returned (.string ⟨(hexD n).toArray⟩) ∧ Below w.heap.size w w' := by
  have HI := Aside0.mk (bits16 n hn w hB)
  clear hn hB
  go_enter Tryz.func136, Tryz.ntmps136
  go_wp2_with fail
  refine HI.out.mono ?_
  rintro e w' ⟨rfl, hb⟩
  go_wp2_with fail
  go_ret
  exact ⟨rfl, hb⟩
theorem fmt16 (n : Nat) (hn : n < 18446744073709551616) (w : World) (hB : BitW w) :
    Calls Tryz.prog 110 #[.int .u64 (n : Int), .int .i64 16] w fun e w' => e = .returned (.string ⟨(hexD n).toArray⟩) ∧ Below w.heap.size w w' := by
  have HI := Aside0.mk (ifmt16 n hn w hB)
  clear hn hB
  go_enter Tryz.func110, Tryz.ntmps110
  go_wp2_with fail
  refine HI.out.mono ?_
  rintro e w' ⟨rfl, hb⟩
  go_wp2_with fail
  go_ret
  exact ⟨rfl, hb⟩
/-! ### a cell's text -/
theorem rep_list (k : Nat) : Lib.repeatL [48] k = List.replicate k 48 := by
  induction k with
  | zero => rfl
  | succ k ih => rw [List.replicate_succ, ← ih]; rfl
end Go.Proofs.YtciolchdihlgfaaGreatDoor.Tx
