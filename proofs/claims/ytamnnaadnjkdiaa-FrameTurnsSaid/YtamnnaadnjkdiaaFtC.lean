import Derived.Test.YtamnnaadnjkdiaaFtB
import Derived.Test.YtamnnaadnjkdiaaEFrameLong
import Derived.Outline
import Derived.BigQuiet
import Derived.RegionTactic
import Derived.WalkSmall
import Derived.Deep.LoopGhost
/-! FrameTurns: the walk. -/
namespace Go.Proofs.Ytamnnaadnjkdiaa.Ft
open Go.RowKit Go.Proofs.YtamnnaadnjkdiaaW.PrintWords Go.Proofs.YtamnnaadnjkdiaaW.PrintLast Go.Proofs.YtamnnaadnjkdiaaW.PrintMore Go.Proofs.Ytamnnaadnjkdiaa.Wire Go.Proofs.Ytamnnaadnjkdiaa.Crc Go.Proofs.Ytamnnaadnjkdiaa.Frame Go.Proofs.Ytamnnaadnjkdiaa.PFrameLong Go.Proofs.Ytamnnaadnjkdiaa.FrameLongG Go.Proofs.Ytamnnaadnjkdiaa.FrameLongC
set_option linter.unusedVariables false
set_option linter.unusedSimpArgs false
set_option maxRecDepth 100000
theorem info8 : (Try.prog.info? 5).map (fun i => (i.zero, i.size, i.bytes)) = some (some (.int .u8 0), 1, 1) := by kernel_rfl
theorem info64 : (Try.prog.info? 3).map (fun i => (i.zero, i.size, i.bytes)) = some (some (.int .i64 0), 1, 8) := by kernel_rfl
theorem alive_calls (w : World) : Calls Try.prog 35 #[] w fun e w' => e = .returned (.bool true) ∧ Below w.heap.size w w' := decklelaw11_alive.calls 60 true w (FrameLongE.alive 60 (by omega))
theorem write_calls {A : Option Addr} {c : Nat} {l : List Int} (hb : Bytes l) (hl : l.length ≤ 140737488351232) (hc : l.length ≤ c) (w : World) (hr : Kd.C (Kd.int .u8) w A l.length l) {r : List Int} {x : Int} (h : (if 1048576 < (l.length : Int) then (([] : List Int), (13 : Int)) else (fput 2 l, 0)) = (r, x)) :
    Calls Try.prog 34 #[.int .i64 2, .slice A l.length c] w fun e w' => ∃ v, e = .returned (.tuple #[v, .int .i64 x]) ∧ Kd.R (Kd.int .u8) 5 w' w.heap.size (fun _ => True) v r ∧ Below w.heap.size w w' := by
  by_cases hs : l.length ≤ 140737488000000
  · exact frame_Write.calls 60 2 A c l r x w hr hc (by rw [FrameLongE.fwrite hb hs 60 (by omega), if_neg (by decide), h])
  · refine frame_Write.calls 60 2 A c l r x w hr hc ?_
    rw [if_pos (by omega)] at h
    rw [← Prod.mk.inj h |>.1, ← Prod.mk.inj h |>.2]
    unfold frame_Write.f
    have hj : ∀ b : Bool, b = false → frame_Write.j0 60 2 l b = some ([], 13) := by
      rintro b rfl
      rw [frame_Write.j0, if_neg (by decide), if_pos (by omega)]
    rw [if_neg (by decide)]
    exact hj _ (by decide)
theorem next_calls {A : Option Addr} {c n B : Nat} {t : List Int} (hb : Bytes t) (hl : n ≤ 140737488351232) (hn : t.length = n) {e : Int} (he : fnext t = (0, [], 0, e)) {w : World} (hr : Kd.R (Kd.int .u8) 5 w B (fun _ => True) (.slice A n c) t) :
    Calls Try.prog 36 #[.slice A n c] w fun x w' => ∃ v, x = .returned (.tuple #[.int .i64 0, v, .int .i64 0, .int .i64 e]) ∧ Kd.R (Kd.int .u8) 5 w' w.heap.size (fun _ => True) v [] ∧ Below w.heap.size w w' := by
  subst hn
  exact frame_Next.calls 60 A c t 0 [] 0 e w (Kd.R_reads' hr).2.2 (Kd.R_reads' hr).2.1 (by rw [FrameLongE.next hb hl 60 (by omega), he])
theorem box_below (w : World) (t : TypeId) (x0 x1 x2 : Int) (w1 : World) (b : Below (w.alloc (Obj.cells #[Value.int IntKind.i64 x0, Value.int IntKind.i64 x1, Value.int IntKind.i64 x2] t)).heap.size (w.alloc (Obj.cells #[Value.int IntKind.i64 x0, Value.int IntKind.i64 x1, Value.int IntKind.i64 x2] t)) w1) :
    w1.cell? ⟨w.heap.size, 0, none⟩ = some (.int .i64 x0) ∧ w1.cell? ⟨w.heap.size, 1, none⟩ = some (.int .i64 x1) ∧ w1.cell? ⟨w.heap.size, 2, none⟩ = some (.int .i64 x2) := by
  have hlt : w.heap.size < (w.alloc (Obj.cells #[Value.int IntKind.i64 x0, Value.int IntKind.i64 x1, Value.int IntKind.i64 x2] t)).heap.size := by rw [World.size_alloc]; omega
  refine ⟨?_, ?_, ?_⟩ <;> rw [b.cell hlt, World.cell?_alloc_at _ _ _ _ rfl] <;> rfl
theorem box_keep {n : Nat} {x0 x1 x2 : Int} {w1 w2 : World} {B : Nat} (h : w1.cell? ⟨n, 0, none⟩ = some (.int .i64 x0) ∧ w1.cell? ⟨n, 1, none⟩ = some (.int .i64 x1) ∧ w1.cell? ⟨n, 2, none⟩ = some (.int .i64 x2)) (b : Below B w1 w2) (hB : n < B) :
    w2.cell? ⟨n, 0, none⟩ = some (.int .i64 x0) ∧ w2.cell? ⟨n, 1, none⟩ = some (.int .i64 x1) ∧ w2.cell? ⟨n, 2, none⟩ = some (.int .i64 x2) := by
  obtain ⟨h0, h1, h2⟩ := h
  exact ⟨by rw [b.cell hB]; exact h0, by rw [b.cell hB]; exact h1, by rw [b.cell hB]; exact h2⟩
theorem idx3 (x0 x1 x2 : Int) (k : Nat) (hk : k < 3) : ∃ x, ∀ w' : World, (Instr.index 50 (Value.agg #[Value.int IntKind.i64 x0, Value.int IntKind.i64 x1, Value.int IntKind.i64 x2]) (Value.int IntKind.i64 (k : Int))).run Try.prog w' = .ok (.int .i64 x) w' := by
  match k, hk with
  | 0, _ => exact ⟨x0, fun w' => rfl⟩
  | 1, _ => exact ⟨x1, fun w' => rfl⟩
  | 2, _ => exact ⟨x2, fun w' => rfl⟩
/-- The places below k that are not of the length. -/
def frees (H k : Nat) : List Nat := (List.range k).filter fun i => decide (i < 8 ∨ 8 * H ≤ i)
theorem frees_succ (H k : Nat) : frees H (k + 1) = if k < 8 ∨ 8 * H ≤ k then frees H k ++ [k] else frees H k := by
  unfold frees
  rw [List.range_succ, List.filter_append]
  by_cases h : k < 8 ∨ 8 * H ≤ k
  · rw [if_pos h]; simp [h]
  · rw [if_neg h]; simp [h]
theorem frees_len (H k : Nat) : (frees H k).length ≤ k := by
  unfold frees
  exact Nat.le_trans (List.length_filter_le _ _) (by simp)
theorem frees_mem {H k i : Nat} (h : i ∈ frees H k) : i < k ∧ (i < 8 ∨ 8 * H ≤ i) := by
  unfold frees at h
  rw [List.mem_filter, List.mem_range] at h
  exact ⟨h.1, of_decide_eq_true h.2⟩
theorem pow8 {j : Nat} (h : j < 8) : 2 ^ j < 256 := Nat.pow_lt_pow_right (a := 2) (n := 8) (by decide) h
theorem shl_is {j : Nat} (h : j < 8) : shl .u8 1 (j : Int) = ((2 ^ j : Nat) : Int) := by
  have hlt := pow8 h
  unfold shl
  rw [Int.toNat_natCast, Nat.min_eq_left (show j ≤ IntKind.u8.bits by simp [IntKind.bits]; omega), IntKind.wrap_u8, Int.one_mul]
  have : ((2 : Int) ^ j) = ((2 ^ j : Nat) : Int) := by simp
  rw [this]
  generalize 2 ^ j = q at *
  omega
theorem shl_m {j : Nat} (h : j < 8) : shl .u8 1 (j : Int) = 2 ^ j % 256 := by
  have hlt := pow8 h
  rw [shl_is h]
  have : ((2 : Int) ^ j) = ((2 ^ j : Nat) : Int) := by simp
  rw [this]
  generalize 2 ^ j = q at *
  omega
theorem flip_is (t : List Int) (hb : Bytes t) (p : Nat) (hp : p / 8 < t.length) : t.set (p / 8) (bits .xor .u8 (rd t ((p / 8 : Nat) : Int)) (shl .u8 1 ((p % 8 : Nat) : Int))) = Crc.flip t p := by
  have hr := hb.rd_ (p / 8)
  have hlt := pow8 (show p % 8 < 8 from Nat.mod_lt _ (by decide))
  rw [shl_is (Nat.mod_lt _ (by decide))]
  unfold Crc.flip
  generalize 2 ^ (p % 8) = q at *
  rw [u8_xor _ _ hr.1 hr.2 (by omega) (by omega)]
  unfold rd
  simp only [Int.toNat_natCast]
theorem bit32 (m k : Nat) (hm : m < 4294967296) (hk : k < 32) : (bits .and .u32 ((m : Int) / 2 ^ k) 1 == 1) = decide (m / 2 ^ k % 2 = 1) := by
  have e : (m : Int) / 2 ^ k = ((m / 2 ^ k : Nat) : Int) := by simp
  have hlt : m / 2 ^ k < 4294967296 := Nat.lt_of_le_of_lt (Nat.div_le_self _ _) hm
  rw [e]
  generalize m / 2 ^ k = q at *
  have h := bits_mask .u32 32 (by decide) (fun n a b => by rw [IntKind.wrap_u32]; omega) 1 (by decide) (q : Int) (by omega) (by omega)
  have h2 : bits .and .u32 (q : Int) 1 = ((q % 2 : Nat) : Int) := by simpa using h
  rw [h2]
  by_cases hq : q % 2 = 1
  · rw [hq]; rfl
  · have : q % 2 = 0 := by omega
    rw [this]; rfl
def ints (l : List Nat) : List Int := l.map fun (i : Nat) => (i : Int)
theorem ints_len (l : List Nat) : (ints l).length = l.length := by simp [ints]
set_option maxHeartbeats 4000000 in
theorem frameTurns_big (A0 : Option Addr) (c0 : Nat) (l : List Int) (x0 x1 x2 y : Int) (w : World) (hr0 : Kd.C (Kd.int .u8) w A0 l.length l) (hc0 : l.length ≤ c0) (hb0 : Bytes l) (hl0 : l.length ≤ 140737488351232) (hbig : 3000 < l.length) :
    Calls Try.prog 7 #[.slice A0 l.length c0, .agg #[.int .i64 x0, .int .i64 x1, .int .i64 x2], .int .u32 y] w fun e w' => e = .returned (.bool true) ∧ Below w.heap.size w w' := by
  have t1 : decide ((3000 : Int) < (l.length : Int)) = true := decide_eq_true (by omega)
  have t2 : decide (3000 < l.length) = true := decide_eq_true hbig
  obtain ⟨r, hrx⟩ : ∃ r : List Int × Int, (if 1048576 < (l.length : Int) then (([] : List Int), (13 : Int)) else (fput 2 l, 0)) = r := ⟨_, rfl⟩
  have hx : r.2 = 13 ∨ r.2 = 0 := by rw [← hrx]; split <;> simp
  obtain ⟨r, x⟩ := r
  have HR0 := Aside0.mk hr0
  have HW := Aside0.mk (fun w' h => write_calls (A := A0) hb0 hl0 hc0 w' h hrx)
  clear hr0 hrx
  simp only at hx
  go_enter Try.func7, Try.ntmps7
  go_wp2_with fail
  refine (HW.out _ (Kd.C_alloc HR0.out _)).mono ?_
  rintro e w1 ⟨v1, rfl, hv1, b1⟩
  obtain ⟨A1, c1, rfl⟩ := Kd.R_slice hv1
  clear hv1
  go_wp2_with fail
  refine (alive_calls _).mono ?_
  rintro e w2 ⟨rfl, b2⟩
  rcases hx with rfl | rfl
  · go_wp2_with fail
    refine (alive_calls _).mono ?_
    rintro e w3 ⟨rfl, b3⟩
    go_wp2
    go_ret
    exact ⟨by first | rfl | simp, below_step (below_step (below_step (below_alloc (Below.refl _ _) _) b1) b2) b3⟩
  · go_wp2_with fail
    refine (alive_calls _).mono ?_
    rintro e w3 ⟨rfl, b3⟩
    go_wp2
    go_ret
    exact ⟨by first | rfl | simp, below_step (below_step (below_step (below_alloc (Below.refl _ _) _) b1) b2) b3⟩
set_option maxHeartbeats 4000000 in
theorem frameTurns_small (A0 : Option Addr) (c0 : Nat) (l : List Int) (x0 x1 x2 : Int) (y : Nat) (w : World) (hr0 : Kd.C (Kd.int .u8) w A0 l.length l) (hc0 : l.length ≤ c0) (hb0 : Bytes l) (hy : y < 4294967296) (hsm : l.length ≤ 3000) :
    Calls Try.prog 7 #[.slice A0 l.length c0, .agg #[.int .i64 x0, .int .i64 x1, .int .i64 x2], .int .u32 (y : Int)] w fun e w' => e = .returned (.bool true) ∧ Below w.heap.size w w' := by
  have t1 : decide ((3000 : Int) < (l.length : Int)) = false := decide_eq_false (by omega)
  have t2 : decide (3000 < l.length) = false := decide_eq_false (by omega)
  have HR0 := Aside0.mk hr0
  have HB0 := Aside0.mk hb0
  have hu : usz l.length ≤ 10 := usz_le10 (by omega)
  obtain ⟨b, hb⟩ : ∃ b, b = fput 2 l := ⟨_, rfl⟩
  have HE := Aside0.mk hb
  have HBB := Aside0.mk (show Bytes b by rw [hb]; exact fput_bytes (by decide) (by decide) HB0.out)
  obtain ⟨H, hH⟩ : ∃ H, H = 1 + usz l.length := ⟨_, rfl⟩
  have HH := Aside0.mk hH
  have hbl : b.length = H + l.length + 4 := by rw [hb, fput_len, hH]; omega
  have HBL := Aside0.mk hbl
  have hH2 : 2 ≤ H := by rw [hH]; have := (usz_spec l.length).1; omega
  have hH3 : H ≤ 11 := by omega
  have hh2 : (b.length : Int) - (l.length : Int) - 4 = (H : Int) := by omega
  have HW := Aside0.mk (fun w' h => write_calls (A := A0) (r := b) (x := 0) hb0 (by omega) hc0 w' h (by rw [if_neg (by omega), hb]))
  have s1 : b.length ≤ 3020 := by omega
  have s2 : 6 ≤ b.length := by omega
  clear hr0 hb0 hb hH hu hbl
  go_enter Try.func7, Try.ntmps7
  go_wp2_with fail
  refine (HW.out _ (Kd.C_alloc HR0.out _)).mono ?_
  rintro e w1 ⟨v1, rfl, hv1, b1⟩
  obtain ⟨A1, c1, rfl⟩ := Kd.R_slice hv1
  have HX1 := Aside0.mk (box_below w _ x0 x1 x2 w1 b1)
  have HSZ1 := Aside0.mk (show w.heap.size < w1.heap.size from Nat.lt_of_lt_of_le (by rw [World.size_alloc]; omega) b1.size)
  have HB1 := Aside0.mk (below_step (below_alloc (Below.refl _ _) _) b1)
  have HC1 := Aside0.mk (Kd.R_reads' hv1)
  clear hv1 b1
  go_wp2_with fail
  refine (alive_calls _).mono ?_
  rintro e w2 ⟨rfl, b2⟩
  have HX2 := Aside0.mk (box_keep HX1.out b2 HSZ1.out)
  have HSZ2 := Aside0.mk (show w.heap.size < w2.heap.size from Nat.lt_of_lt_of_le HSZ1.out b2.size)
  have HB2 := Aside0.mk (below_step HB1.out b2)
  have HC2 := Aside0.mk (Kd.C_below HC1.out.2.2 b2)
  have HCC := Aside0.mk HC1.out.2.1
  clear b2 HX1 HSZ1 HB1 HC1
  go_wp2_with ((with_reducible refine gate_dst (N := 60) rfl ?_); (try (refine gate_guard (by rfl) ?_; dsimp only)); refine Kd.R_lit (Kd.int .i64) _ 3 ?hg (N := 60) ?hd (xs := ([] : List Int)) (inner := []) (ok := fun _ => True) (okp := fun _ => True) ?hr ?hp (fun _ hk => hk) trivial (Below.refl _ _) (Nat.le_refl _) (by simp) ?_; (case hd => rfl); (case hg => rfl); (case hr => first | (go_simp; done) | (go_simp; rfl)); (case hp => exact (Reps.none _ _)); intro v3 w3 ho3 hb3 hg3 hnew3; have HO3 := Aside0.mk ho3; have HB3 := Aside0.mk hb3; clear ho3 hb3 hg3 hnew3)
  go_loopw [10, 64] (fun v i wr => ∃ (k : Nat), k ≤ 8 * b.length ∧ i = .int .i64 (k : Int) ∧ Aside0 (Kd.R (Kd.int .i64) 3 wr w2.heap.size (fun _ => True) v (ints (frees H k))) ∧ Aside0 (Below w2.heap.size w2 wr)) (fun _ i _ => 8 * b.length - (intOf i).toNat)
  case atStart => exact ⟨0, by omega, rfl, ⟨HO3.out⟩, ⟨HB3.out⟩⟩
  case round =>
    obtain ⟨k, hk, rfl, HO, HB⟩ := hrel
    by_cases hlt : k < 8 * b.length
    · have u1 : decide ((k : Int) < 8 * (b.length : Int)) = true := decide_eq_true (by omega)
      have u2 : decide (k < 8 * b.length) = true := decide_eq_true hlt
      have hmax : (k : Int) + 1 ≤ 9223372036854775807 := by omega
      have HLT := Aside0.mk hlt
      have HFL := Aside0.mk (frees_len H k)
      have HS := Aside0.mk (frees_succ H k)
      obtain ⟨A5, c5, rfl⟩ := Kd.R_slice HO.out
      by_cases h8 : k < 8
      · have p1 : decide ((k : Int) < 8) = true := decide_eq_true (by omega)
        have p2 : decide (k < 8) = true := decide_eq_true h8
        rw [if_pos (.inl h8)] at HS
        clear hlt hk h8
        go_wp2_with ((with_reducible refine gate_builtin (b := .append) (xs := #[.tmp 75, .tmp 77]) rfl ?_); (try (refine gate_guard (by rfl) ?_; dsimp only)); at_builtin; refine Kd.R_append (Kd.int .i64) (w0 := w2) w2.heap.size rfl (.tmp 75) (.tmp 77) 54 3 (.int .i64 0) 8 rfl Try.underlying54 info64 rfl (by decide) (by omega) _ (ints (frees H k)) (k : Int) [.int .i64 (k : Int)] (fun _ => True) (fun _ => False) rfl rfl ?aP (fun _ hk => hk.elim) ?aF ?aO ?aB ?aS ?aL ?_; (case aP => exact rfl); (case aB => exact HB.out); (case aF => exact (fun _ _ => trivial)); (case aO => exact HO.out); (case aS => exact HB.out.size); (case aL => rw [ints_len]; have := HFL.out; have := HLT.out; omega); intro v6 w6 ho6 hb6 hg6 hat6; have HO6 := Aside0.mk ho6; have HB6 := Aside0.mk hb6; clear ho6 hb6 hg6 hat6)
        go_roundw
        case rel => exact ⟨k + 1, HLT.out, by go_num, ⟨by rw [HS.out]; unfold ints at HO6 ⊢; rw [List.map_append]; exact HO6.out⟩, ⟨HB6.out⟩⟩
        case measure => have := HLT.out; simp [intOf]; omega
      · have p1 : decide ((k : Int) < 8) = false := decide_eq_false (by omega)
        have p2 : decide (k < 8) = false := decide_eq_false h8
        by_cases hH : 8 * H ≤ k
        · have p3 : decide (8 * (H : Int) ≤ (k : Int)) = true := decide_eq_true (by omega)
          have p4 : decide (8 * H ≤ k) = true := decide_eq_true hH
          rw [if_pos (.inr hH)] at HS
          clear hlt hk h8 hH
          go_wp2_with ((with_reducible refine gate_builtin (b := .append) (xs := #[.tmp 75, .tmp 77]) rfl ?_); (try (refine gate_guard (by rfl) ?_; dsimp only)); at_builtin; refine Kd.R_append (Kd.int .i64) (w0 := w2) w2.heap.size rfl (.tmp 75) (.tmp 77) 54 3 (.int .i64 0) 8 rfl Try.underlying54 info64 rfl (by decide) (by omega) _ (ints (frees H k)) (k : Int) [.int .i64 (k : Int)] (fun _ => True) (fun _ => False) rfl rfl ?aP (fun _ hk => hk.elim) ?aF ?aO ?aB ?aS ?aL ?_; (case aP => exact rfl); (case aB => exact HB.out); (case aF => exact (fun _ _ => trivial)); (case aO => exact HO.out); (case aS => exact HB.out.size); (case aL => rw [ints_len]; have := HFL.out; have := HLT.out; omega); intro v6 w6 ho6 hb6 hg6 hat6; have HO6 := Aside0.mk ho6; have HB6 := Aside0.mk hb6; clear ho6 hb6 hg6 hat6)
          go_roundw
          case rel => exact ⟨k + 1, HLT.out, by go_num, ⟨by rw [HS.out]; unfold ints at HO6 ⊢; rw [List.map_append]; exact HO6.out⟩, ⟨HB6.out⟩⟩
          case measure => have := HLT.out; simp [intOf]; omega
        · have p3 : decide (8 * (H : Int) ≤ (k : Int)) = false := decide_eq_false (by omega)
          have p4 : decide (8 * H ≤ k) = false := decide_eq_false hH
          rw [if_neg (by omega)] at HS
          clear hlt hk h8 hH
          go_wp2_with fail
          go_roundw
          case rel => exact ⟨k + 1, HLT.out, by go_num, ⟨by rw [HS.out]; exact HO.out⟩, ⟨HB.out⟩⟩
          case measure => have := HLT.out; simp [intOf]; omega
    · have u1 : decide ((k : Int) < 8 * (b.length : Int)) = false := decide_eq_false (by omega)
      have u2 : decide (k < 8 * b.length) = false := decide_eq_false hlt
      obtain rfl : k = 8 * b.length := by omega
      obtain ⟨w4, hw4⟩ : ∃ w4, w4 = wr := ⟨_, rfl⟩
      subst hw4
      obtain ⟨A5, c5, rfl⟩ := Kd.R_slice HO.out
      have HMEM := Aside0.mk (show ∀ i, i ∈ frees H (8 * b.length) → i < 8 * b.length ∧ (i < 8 ∨ 8 * H ≤ i) from fun i => frees_mem)
      have hpos : 0 < (frees H (8 * b.length)).length := by
        have : 0 ∈ frees H (8 * b.length) := by unfold frees; rw [List.mem_filter, List.mem_range]; exact ⟨by omega, by simp⟩
        exact List.length_pos_of_mem this
      have HFL := Aside0.mk (frees_len H (8 * b.length))
      generalize frees H (8 * b.length) = fr at *
      have hpos2 : 0 < (ints fr).length := by rw [ints_len]; exact hpos
      have hfl2 : (ints fr).length ≤ 25000 := by rw [ints_len]; have := HFL.out; omega
      have HX := Aside0.mk (box_keep HX2.out HB.out HSZ2.out)
      have HCB := Aside0.mk (Kd.C_below HC2.out HB.out)
      have HLB := Aside0.mk (below_step HB2.out HB.out)
      have HFR := Aside0.mk (Kd.R_reads' HO.out)
      have HSZ := Aside0.mk (show w.heap.size < w4.heap.size from Nat.lt_of_lt_of_le HSZ2.out HB.out.size)
      have hmm := @run_makeMap Try.prog
      clear HX2 HC2 HSZ2 hlt hpos HO HB HO3 HB3 hk
      go_wp2_with (first | ((with_reducible refine gate_dst (N := 80) rfl ?_); (try (refine gate_guard (by rfl) ?_; dsimp only)); refine Kd.R_lit (Kd.int .u8) _ 5 ?hg (N := 80) ?hd (xs := ([] : List Int)) (inner := []) (ok := fun _ => True) (okp := fun _ => True) ?hr ?hp (fun _ hk => hk) trivial (Below.refl _ _) (Nat.le_refl _) (by simp) ?_; (case hd => rfl); (case hg => rfl); (case hr => first | (go_simp; done) | (go_simp; rfl)); (case hp => exact (Reps.none _ _)); intro v7 w7 ho7 hb7 hg7 hnew7; have HC7 := Aside0.mk (Kd.C_below HCB.out hb7); have HO7 := Aside0.mk ho7; have HB7 := Aside0.mk hb7; clear ho7 hb7 hg7 hnew7) | ((with_reducible refine gate_builtin (b := .append) (xs := #[.tmp 80, .tmp 81]) rfl ?_); (try (refine gate_guard (by rfl) ?_; dsimp only)); at_builtin; refine Kd.R_append_rows (Kd.int .u8) (w0 := w4) w4.heap.size rfl (.tmp 80) (.tmp 81) 22 5 (.int .u8 0) 1 rfl Try.underlying22 info8 rfl (by decide) (by omega) _ [] b A1 _ c1 (fun _ => True) (fun _ => False) rfl rfl ?aO ?aR (fun _ _ h => h) (fun _ h => h.elim) ?aF ?aB ?aS ?aL ?_; (case aO => exact HO7.out); (case aR => exact HC7.out); (case aF => exact fun _ _ => trivial); (case aB => exact HB7.out); (case aS => exact HB7.out.size); (case aL => simp; omega); intro v8 w8 ho8 hb8 hg8 hat8; rw [List.nil_append] at ho8; obtain ⟨A8, c8, rfl⟩ := Kd.R_slice ho8; have HO8 := Aside0.mk ho8; have HB8 := Aside0.mk hb8; obtain ⟨hx0, hx1, hx2⟩ := box_keep HX.out (below_alloc hb8 (.map #[] 0)) HSZ.out; clear ho8 hb8 hg8 hat8))
      clear hx0 hx1 hx2 hmm
      have HLT8 := Aside0.mk (show Kd.R (Kd.int .u8) 5 (w8.alloc (.map #[] 0)) w4.heap.size (fun j => j ≠ w8.heap.size) (.slice A8 b.length c8) b from Kd.R_alloc (Kd.R_mono (Kd.R_bound HO8.out) (fun _ hk => Nat.ne_of_lt hk.2.2.1)) _)
      go_loopw [85] (fun i wr => ∃ (k : Nat) (ks : List Nat), k ≤ 3 ∧ i = .int .i64 (k : Int) ∧ Aside0 (ks.length = k ∧ ∀ p ∈ ks, p ∈ fr) ∧ Aside0 (Held wr w8.heap.size ks) ∧ Aside0 (Kd.R (Kd.int .u8) 5 wr w4.heap.size (fun j => j ≠ w8.heap.size) (.slice A8 b.length c8) (trn b ks)) ∧ Aside0 (Below w4.heap.size w4 wr)) (fun i _ => 3 - (intOf i).toNat)
      case atStart => exact ⟨0, [], by omega, rfl, ⟨rfl, by simp⟩, ⟨held_new _⟩, ⟨HLT8.out⟩, ⟨below_alloc HB8.out _⟩⟩
      case round =>
        obtain ⟨k, ks, hk, rfl, HK, HM, HO, HB⟩ := hrel
        by_cases hlt : k < 3
        · have u1 : decide ((k : Int) < 3) = true := decide_eq_true (by omega)
          have u2 : decide (k < 3) = true := decide_eq_true hlt
          have hmax : (k : Int) + 1 ≤ 9223372036854775807 := by omega
          have HLT := Aside0.mk hlt
          obtain ⟨x, hx⟩ := idx3 x0 x1 x2 k hlt
          obtain ⟨u, hu⟩ := Int.eq_ofNat_of_zero_le (show 0 ≤ IntKind.u64.wrap x by rw [u64_wrap]; omega)
          have hu' := hu
          rw [u64_wrap] at hu'
          have hpl : u % (ints fr).length < (ints fr).length := Nat.mod_lt _ (by omega)
          have hpm : Int.tmod (u : Int) ((ints fr).length : Int) = ((u % (ints fr).length : Nat) : Int) := by rw [Int.tmod_eq_emod_of_nonneg (by omega)]; rfl
          generalize u % (ints fr).length = p at hpl hpm
          have hz0 : ¬ (((ints fr).length : Int) = 0) := by omega
          have hz : (((ints fr).length : Int) == 0) = false := beq_eq_false_iff_ne.mpr hz0
          obtain ⟨ad, e, hf⟩ := Kd.at_int (Kd.C_below HFR.out.2.2 HB.out) (p : Int) (by omega) (by omega)
          cases e
          rw [Int.toNat_natCast] at hf
          obtain ⟨i, hi, hif⟩ : ∃ i : Nat, i ∈ fr ∧ rd (ints fr) (p : Int) = (i : Int) := by
            have hl2 : p < fr.length := by rw [ints_len] at hpl; exact hpl
            refine ⟨fr[p], List.getElem_mem hl2, ?_⟩
            unfold rd ints
            rw [Int.toNat_natCast, List.getD_eq_getElem?_getD, List.getElem?_map, List.getElem?_eq_getElem hl2]
            rfl
          rw [hif] at hf
          have him := HMEM.out i hi
          have hib : i < 1000000 := by omega
          have hpb : p < 1000000 := by omega
          have hp0 : (0 ≤ (p : Int)) = True := eq_true (by omega)
          have hp1 : ((p : Int) < ((ints fr).length : Int)) = True := eq_true (by omega)
          have hlk := held_look HM.out hib
          have HIM := Aside0.mk him
          have HI := Aside0.mk hi
          clear hif him hi hlt hk hpl
          have hkl : ks.length < 100 := by have := HK.out.1; have := HLT.out; omega
          have HB8S := Aside0.mk (show w4.heap.size ≤ w8.heap.size from HB8.out.size)
          by_cases hin : i ∈ ks
          · rw [decide_eq_true hin] at hlk
            obtain ⟨w9, hpu, hm9, hg9⟩ := held_put HM.out hkl hib
            have HM9 := Aside0.mk hm9
            have HO9 := Aside0.mk (Kd.R_step HO.out (w1 := w9) (fun j hj hjl => hg9.block j hjl (fun e => hj (by injection e))))
            have HB9 := Aside0.mk (HB.out.grown hg9 HB.out.size (fun k e => by injection e with e; rw [← e]; exact HB8S.out))
            have HIN := Aside0.mk hin
            clear hm9 hg9 hin
            go_wp2_with fail
            go_roundw
            case rel => exact ⟨k + 1, i :: ks, HLT.out, by go_num, ⟨by rw [List.length_cons, HK.out.1], fun z hz => (List.mem_cons.1 hz).elim (fun h => by rw [h]; exact HI.out) (HK.out.2 z)⟩, ⟨HM9.out⟩, ⟨by unfold trn; rw [if_pos HIN.out]; exact HO9.out⟩, ⟨HB9.out⟩⟩
            case measure => have := HLT.out; simp [intOf]; omega
          · rw [decide_eq_false hin] at hlk
            have HTB := Aside0.mk (trn_bytes HBB.out ks)
            have HTN := Aside0.mk (show trn b (i :: ks) = Crc.flip (trn b ks) i by show (if i ∈ ks then trn b ks else Crc.flip (trn b ks) i) = _; rw [if_neg hin])
            have htl := trn_len b ks
            have hql : i / 8 < b.length := by have := HIM.out.1; omega
            have hqb : i / 8 < 1000000 := by omega
            have hml : i % 8 < 8 := Nat.mod_lt _ (by decide)
            have HFI := Aside0.mk (flip_is (trn b ks) HTB.out i (by rw [htl]; exact hql))
            have hq : Int.tdiv (i : Int) 8 = ((i / 8 : Nat) : Int) := by rw [Int.tdiv_eq_ediv_of_nonneg (by omega)]; rfl
            have hm : Int.tmod (i : Int) 8 = ((i % 8 : Nat) : Int) := by rw [Int.tmod_eq_emod_of_nonneg (by omega)]; rfl
            obtain ⟨go, c9, e9, gb, gl, cl, HG⟩ := Kd.R_form HO.out (by rw [htl]; omega)
            have HGN := Aside0.mk (show go ≠ w8.heap.size from HO.out.1 go (by rw [e9]; rfl))
            injection e9 with ea en ec
            subst ea
            subst ec
            clear en gl HG cl
            have GB := Aside0.mk gb
            clear gb htl hin
            generalize trn b ks = t at *
            generalize i / 8 = q at *
            generalize i % 8 = m at *
            go_wp2_with fail
            obtain ⟨hcx, hfx⟩ := Kd.R_celln 0 (Kd.R_drew HO.out) (q : Int) (by omega) (by omega)
            rw [Int.toNat_natCast] at hcx hfx
            have hq0 : (0 ≤ (q : Int)) = True := eq_true (by omega)
            have hq1 : ((q : Int) < (b.length : Int)) = True := eq_true (by omega)
            have hm0 : (0 ≤ (m : Int)) = True := eq_true (by omega)
            obtain ⟨O, hO⟩ : ∃ O, O = bits .xor .u8 (rd t (q : Int)) (shl .u8 1 (m : Int)) := ⟨_, rfl⟩
            have HOV := Aside0.mk (show bits .xor .u8 (rdOf 0 t (q : Int)) (2 ^ m % 256) = O from by rw [hO, shl_m hml]; rfl)
            have HOE := Aside0.mk (show t.set q O = Crc.flip t i from by rw [hO]; exact HFI.out)
            clear hO
            have HPG := Aside0.mk (Kd.R_putg HO.out (q : Int) O)
            have HPT := Aside0.mk (show Kd.R (Kd.int .u8) 5 (wr.setCell ⟨go, q, none⟩ (.int .u8 O)) w4.heap.size (fun j => j ≠ w8.heap.size) (.slice (some ⟨go, 0, none⟩) b.length c8) (t.set q O) from HPG.out.1)
            have HMT := Aside0.mk (show Held (wr.setCell ⟨go, q, none⟩ (.int .u8 O)) w8.heap.size ks from HM.out.kept HPG.out.2 (fun e => HGN.out (by injection e with e; exact e.symm)))
            have HBT := Aside0.mk (show Below w4.heap.size w4 (wr.setCell ⟨go, q, none⟩ (.int .u8 O)) from below_set HB.out GB.out)
            clear HPG
            go_region
            rw [HOV.out]
            have HPT := Aside0.mk (Kd.R_drew HPT.out)
            have HMT := Aside0.mk HMT.out.drew
            have HBT := Aside0.mk (below_drew1 HBT.out)
            clear hcx hfx HO HB HM hlk
            generalize (wr.setCell ⟨go, q, none⟩ (.int .u8 O)).drew = W2 at *
            obtain ⟨w9, hpu, hm9, hg9⟩ := held_put HMT.out hkl hib
            have HM9 := Aside0.mk hm9
            have HO9 := Aside0.mk (Kd.R_step HPT.out (w1 := w9) (fun j hj hjl => hg9.block j hjl (fun e => hj (by injection e))))
            have HB9 := Aside0.mk (HBT.out.grown hg9 HBT.out.size (fun k e => by injection e with e; rw [← e]; exact HB8S.out))
            clear hm9 hg9
            go_wp2_with fail
            go_roundw
            case rel => exact ⟨k + 1, i :: ks, HLT.out, by go_num, ⟨by rw [List.length_cons, HK.out.1], fun z hz => (List.mem_cons.1 hz).elim (fun h => by rw [h]; exact HI.out) (HK.out.2 z)⟩, ⟨HM9.out⟩, ⟨by rw [HTN.out, ← HOE.out]; exact HO9.out⟩, ⟨HB9.out⟩⟩
            case measure => have := HLT.out; simp [intOf]; omega
        · have u1 : decide ((k : Int) < 3) = false := decide_eq_false (by omega)
          have u2 : decide (k < 3) = false := decide_eq_false hlt
          obtain rfl : k = 3 := by omega
          have HNX := Aside0.mk (show ∃ e, fnext (trn b ks) = (0, [], 0, e) ∧ (e = 8 ∨ e = 10) from by
            obtain ⟨h3, hmem⟩ := HK.out
            match ks, h3, hmem with
            | [i2, i1, i0], _, hmem =>
              rw [trn3, HE.out]
              have g := fun z hz => HMEM.out z (hmem z hz)
              rw [HE.out, HH.out] at g
              exact next_turned HB0.out hsm (g i0 (by simp)).2 (g i1 (by simp)).2 (g i2 (by simp)).2 (g i0 (by simp)).1 (g i1 (by simp)).1 (g i2 (by simp)).1)
          obtain ⟨e, he, hee⟩ := HNX.out
          have HNC := Aside0.mk (next_calls (trn_bytes HBB.out ks) (by omega) (trn_len b ks) he (Kd.R_mono HO.out (fun _ _ => trivial)))
          have hen : (e == 0) = false := by rcases hee with rfl | rfl <;> decide
          clear hee he
          go_wp2_with fail
          refine HNC.out.mono ?_
          rintro e1 w10 ⟨v10, rfl, hv10, b10⟩
          have HB10 := Aside0.mk (below_step HB.out b10)
          clear hv10 b10 HO HB HM HNC HNX
          by_cases hy0 : y = 0
          · subst hy0
            go_wp2_with fail
            go_ret
            exact ⟨by first | rfl | simp, below_step HLB.out HB10.out⟩
          · have hyn : ((y : Int) == 0) = false := beq_eq_false_iff_ne.mpr (by omega)
            have HY := Aside0.mk hy0
            clear hy0
            obtain ⟨w5, hw5⟩ : ∃ w5, w5 = w10 := ⟨_, rfl⟩
            subst hw5
            have HX5 := Aside0.mk (box_keep HX.out HB10.out HSZ.out)
            have HCB5 := Aside0.mk (Kd.C_below HCB.out HB10.out)
            have HLB5 := Aside0.mk (below_step HLB.out HB10.out)
            obtain ⟨hx0, hx1, hx2⟩ := HX5.out
            obtain ⟨u, hu⟩ := Int.eq_ofNat_of_zero_le (show 0 ≤ IntKind.u64.wrap x0 by rw [u64_wrap]; omega)
            have hu' := hu
            rw [u64_wrap] at hu'
            obtain ⟨z, hz⟩ : ∃ z : Nat, 8 * ((b.length : Int) - (H : Int)) - 31 = (z : Int) := ⟨8 * (b.length - H) - 31, by have := HBL.out; omega⟩
            have hz0 : 1 ≤ z ∧ z < 100000 := by have := HBL.out; omega
            have hpl : u % z < z := Nat.mod_lt _ (by omega)
            have hpm : Int.tmod (u : Int) (z : Int) = ((u % z : Nat) : Int) := by rw [Int.tmod_eq_emod_of_nonneg (by omega)]; rfl
            generalize u % z = p at hpl hpm
            have hzz : ¬ ((z : Int) = 0) := by omega
            have hzb : ((z : Int) == 0) = false := beq_eq_false_iff_ne.mpr hzz
            obtain ⟨i, hi⟩ : ∃ i : Nat, 8 * (H : Int) + (p : Int) = (i : Int) := ⟨8 * H + p, by omega⟩
            have HI := Aside0.mk (show 8 * H ≤ i ∧ i + 31 < 8 * b.length from by have := HBL.out; omega)
            go_wp2_with (first | ((with_reducible refine gate_dst (N := 126) rfl ?_); (try (refine gate_guard (by rfl) ?_; dsimp only)); refine Kd.R_lit (Kd.int .u8) _ 5 ?hg (N := 126) ?hd (xs := ([] : List Int)) (inner := []) (ok := fun _ => True) (okp := fun _ => True) ?hr ?hp (fun _ hk => hk) trivial (Below.refl _ _) (Nat.le_refl _) (by simp) ?_; (case hd => rfl); (case hg => rfl); (case hr => first | (go_simp; done) | (go_simp; rfl)); (case hp => exact (Reps.none _ _)); intro v7 w11 ho7 hb7 hg7 hnew7; have HC7 := Aside0.mk (Kd.C_below HCB5.out hb7); have HO7 := Aside0.mk ho7; have HB7 := Aside0.mk hb7; clear ho7 hb7 hg7 hnew7) | ((with_reducible refine gate_builtin (b := .append) (xs := #[.tmp 126, .tmp 127]) rfl ?_); (try (refine gate_guard (by rfl) ?_; dsimp only)); at_builtin; refine Kd.R_append_rows (Kd.int .u8) (w0 := w5) w5.heap.size rfl (.tmp 126) (.tmp 127) 22 5 (.int .u8 0) 1 rfl Try.underlying22 info8 rfl (by decide) (by omega) _ [] b A1 _ c1 (fun _ => True) (fun _ => False) rfl rfl ?aO ?aR (fun _ _ h => h) (fun _ h => h.elim) ?aF ?aB ?aS ?aL ?_; (case aO => exact HO7.out); (case aR => exact HC7.out); (case aF => exact fun _ _ => trivial); (case aB => exact HB7.out); (case aS => exact HB7.out.size); (case aL => simp; omega); intro v8 w12 ho8 hb8 hg8 hat8; rw [List.nil_append] at ho8; obtain ⟨A12, c12, rfl⟩ := Kd.R_slice ho8; have HO12 := Aside0.mk ho8; have HB12 := Aside0.mk hb8; obtain ⟨hx0, hx1, hx2⟩ := box_keep HX5.out hb8 (Nat.lt_of_lt_of_le HSZ.out HB10.out.size); clear ho8 hb8 hg8 hat8))
            clear hx0 hx1 hx2 hu hu' hpm hzz hzb hpl hz0
            go_loopw [144] (fun v wr => ∃ (j : Nat), j ≤ 32 ∧ v = .int .i64 (j : Int) ∧ Aside0 (Kd.R (Kd.int .u8) 5 wr w5.heap.size (fun _ => True) (.slice A12 b.length c12) (burst b y i j)) ∧ Aside0 (Below w5.heap.size w5 wr)) (fun v _ => 32 - (intOf v).toNat)
            case atStart => exact ⟨0, by omega, rfl, ⟨HO12.out⟩, ⟨HB12.out⟩⟩
            case round =>
              obtain ⟨j, hj, rfl, HO, HB⟩ := hrel
              by_cases hlt : j < 32
              · have u1 : decide ((j : Int) < 32) = true := decide_eq_true (by omega)
                have u2 : decide (j < 32) = true := decide_eq_true hlt
                have hmax : (j : Int) + 1 ≤ 9223372036854775807 := by omega
                have HLT := Aside0.mk hlt
                have hj0 : (0 ≤ (j : Int)) = True := eq_true (by omega)
                obtain ⟨yy, hyy⟩ : ∃ yy, (y : Int) / 2 ^ j = yy := ⟨_, rfl⟩
                have HYB := Aside0.mk (show (bits .and .u32 yy 1 == 1) = decide (y / 2 ^ j % 2 = 1) from by rw [← hyy]; exact bit32 y j hy hlt)
                have HBS := Aside0.mk (show burst b y i (j + 1) = if y / 2 ^ j % 2 = 1 then Crc.flip (burst b y i j) (i + j) else burst b y i j from rfl)
                by_cases hbit : y / 2 ^ j % 2 = 1
                · have hyb : (bits .and .u32 yy 1 == 1) = true := by rw [HYB.out]; exact decide_eq_true hbit
                  rw [if_pos hbit] at HBS
                  have htl := burst_len b y i j
                  obtain ⟨sN, hsN⟩ : ∃ sN, i + j = sN := ⟨_, rfl⟩
                  have hsI : (i : Int) + (j : Int) = (sN : Int) := by omega
                  rw [hsN] at HBS
                  have hsl : sN < 8 * b.length := by have := HI.out; omega
                  have hql : sN / 8 < b.length := by omega
                  have hqb : sN / 8 < 1000000 := by omega
                  have hsb : sN < 1000000 := by omega
                  have hml : sN % 8 < 8 := Nat.mod_lt _ (by decide)
                  have HFI := Aside0.mk (flip_is (burst b y i j) (burst_bytes HBB.out _ _ _) sN (by rw [htl]; exact hql))
                  have hq : Int.tdiv (sN : Int) 8 = ((sN / 8 : Nat) : Int) := by rw [Int.tdiv_eq_ediv_of_nonneg (by omega)]; rfl
                  have hm : Int.tmod (sN : Int) 8 = ((sN % 8 : Nat) : Int) := by rw [Int.tmod_eq_emod_of_nonneg (by omega)]; rfl
                  obtain ⟨go, c9, e9, gb, gl, cl, HG⟩ := Kd.R_form HO.out (by rw [htl]; omega)
                  injection e9 with ea en ec
                  subst ea
                  subst ec
                  clear en gl HG cl
                  have GB := Aside0.mk gb
                  clear gb htl hbit hsN hsl
                  generalize burst b y i j = t at *
                  generalize sN / 8 = q at *
                  generalize sN % 8 = m at *
                  go_wp2_with fail
                  obtain ⟨hcx, hfx⟩ := Kd.R_celln 0 (Kd.R_drew HO.out) (q : Int) (by omega) (by omega)
                  rw [Int.toNat_natCast] at hcx hfx
                  have hq0 : (0 ≤ (q : Int)) = True := eq_true (by omega)
                  have hq1 : ((q : Int) < (b.length : Int)) = True := eq_true (by omega)
                  have hm0 : (0 ≤ (m : Int)) = True := eq_true (by omega)
                  obtain ⟨O, hO⟩ : ∃ O, O = bits .xor .u8 (rd t (q : Int)) (shl .u8 1 (m : Int)) := ⟨_, rfl⟩
                  have HOV := Aside0.mk (show bits .xor .u8 (rdOf 0 t (q : Int)) (2 ^ m % 256) = O from by rw [hO, shl_m hml]; rfl)
                  have HOE := Aside0.mk (show t.set q O = Crc.flip t sN from by rw [hO]; exact HFI.out)
                  clear hO
                  have HPT := Aside0.mk (show Kd.R (Kd.int .u8) 5 (wr.setCell ⟨go, q, none⟩ (.int .u8 O)) w5.heap.size (fun _ => True) (.slice (some ⟨go, 0, none⟩) b.length c12) (t.set q O) from Kd.R_putn HO.out (q : Int) O)
                  have HBT := Aside0.mk (show Below w5.heap.size w5 (wr.setCell ⟨go, q, none⟩ (.int .u8 O)) from below_set HB.out GB.out)
                  go_region
                  rw [HOV.out]
                  have HPT := Aside0.mk (Kd.R_drew HPT.out)
                  have HBT := Aside0.mk (below_drew1 HBT.out)
                  clear hcx hfx HO HB
                  generalize (wr.setCell ⟨go, q, none⟩ (.int .u8 O)).drew = W2 at *
                  go_wp2_with fail
                  go_roundw
                  case rel => exact ⟨j + 1, HLT.out, by go_num, ⟨by rw [HBS.out, ← HOE.out]; exact HPT.out⟩, ⟨HBT.out⟩⟩
                  case measure => have := HLT.out; simp [intOf]; omega
                · have hyb : (bits .and .u32 yy 1 == 1) = false := by rw [HYB.out]; exact decide_eq_false hbit
                  rw [if_neg hbit] at HBS
                  clear hbit
                  go_wp2_with fail
                  go_roundw
                  case rel => exact ⟨j + 1, HLT.out, by go_num, ⟨by rw [HBS.out]; exact HO.out⟩, ⟨HB.out⟩⟩
                  case measure => have := HLT.out; simp [intOf]; omega
              · have u1 : decide ((j : Int) < 32) = false := decide_eq_false (by omega)
                have u2 : decide (j < 32) = false := decide_eq_false hlt
                obtain rfl : j = 32 := by omega
                have HNX := Aside0.mk (show fnext (burst b y i 32) = (0, [], 0, 8) from by
                  have h := HI.out
                  rw [HE.out, HH.out] at h
                  rw [HE.out]
                  exact next_burst HB0.out hsm hy HY.out h.1 h.2)
                have HNC := Aside0.mk (next_calls (burst_bytes HBB.out y i 32) (by omega) (burst_len b y i 32) HNX.out HO.out)
                go_wp2_with fail
                refine HNC.out.mono ?_
                rintro e1 w13 ⟨v13, rfl, hv13, b13⟩
                go_wp2
                go_ret
                exact ⟨by first | rfl | simp, below_step HLB5.out (below_step HB.out b13)⟩
theorem frameTurns_calls (A0 : Option Addr) (c0 : Nat) (l : List Int) (x0 x1 x2 y : Int) (w : World) (hr0 : Kd.C (Kd.int .u8) w A0 l.length l) (hc0 : l.length ≤ c0) (hb0 : Bytes l) (hl0 : l.length ≤ 140737488351232) (hy : (Lit.int .u32 y).wf = true) :
    Calls Try.prog 7 #[.slice A0 l.length c0, .agg #[.int .i64 x0, .int .i64 x1, .int .i64 x2], .int .u32 y] w fun e w' => e = .returned (.bool true) ∧ Below w.heap.size w w' := by
  by_cases hbig : 3000 < l.length
  · exact frameTurns_big A0 c0 l x0 x1 x2 y w hr0 hc0 hb0 hl0 hbig
  · obtain ⟨h0, h1⟩ := wf_u32 hy
    obtain ⟨y, rfl⟩ := Int.eq_ofNat_of_zero_le h0
    exact frameTurns_small A0 c0 l x0 x1 x2 y w hr0 hc0 hb0 (by omega) (by omega)
end Go.Proofs.Ytamnnaadnjkdiaa.Ft
