import Derived.Test.YtciolchdihlgfaaGreatDoorTxA
import Derived.Test.YtciolchdihlgfaaGreatDoorSht
import Derived.Test.YtciolchdihlgfaaGreatDoorShs
import Derived.Lib.AppendIntMem
/-! Numbers written: strconv.FormatUint at base 10 and at base 16. -/
namespace Go.Proofs.YtciolchdihlgfaaGreatDoor.Tx
open Go.RowKit Go.Proofs.YtciolchdihlgfaaGreatDoorW.PrintWords Go.Proofs.YtciolchdihlgfaaGreatDoorW.PrintLast Go.Proofs.YtciolchdihlgfaaGreatDoorW.PrintMore Go.Proofs.YtciolchdihlgfaaGreatDoor.Wire Go.Proofs.YtciolchdihlgfaaGreatDoor.PCo Go.Proofs.YtciolchdihlgfaaGreatDoor.Co Go.Proofs.YtciolchdihlgfaaGreatDoor.Ce Go.Proofs.YtciolchdihlgfaaGreatDoor.Num
set_option linter.unusedVariables false
set_option linter.unusedSimpArgs false
set_option maxRecDepth 100000
/-- The table of the powers of ten. -/
structure PowW (w : World) : Prop where
  tab : Lib.TabIs Tryz.prog w "internal/strconv.uint64pow10" .u64 Lib.pow10Tab
  lt : 5 < w.heap.size
theorem PowW.below {w w' : World} (h : PowW w) (hb : Below w.heap.size w w') : PowW w' := by
  refine ⟨?_, Nat.lt_of_lt_of_le h.lt hb.size⟩
  have ht := h.tab
  unfold Lib.TabIs World.var? at ht ⊢
  rw [show Tryz.prog.globalNamed "internal/strconv.uint64pow10" = some 5 from by kernel_rfl] at ht ⊢
  simp only [Option.bind_some] at ht ⊢
  rw [hb.block _ h.lt]
  exact ht
abbrev encB : UInt8 → Value := fun b => Value.int .u8 (b.toNat : Int)
theorem holds_zero0 (w : World) (T : TypeId) (nd : Nat) (hs : nd ≤ 24) : Go.Sort.Holds encB (w.alloc (.cells Lib.zeros24 T)) w.heap.size 0 (Array.replicate nd (0 : UInt8)) := fun j hj => by
  have hj' : j < nd := by simpa using hj
  refine ⟨?_, World.frozen?_alloc_new _ _ _ _⟩
  rw [World.cell?_alloc_new, Lib.zeros24_at _ (by omega), getElem!_pos _ j hj]
  simp
theorem below_row (w : World) (o : Obj) (dk : Array UInt8) (k : Nat) : Below w.heap.size w ((Go.Sort.putRow encB (w.alloc o) w.heap.size 0 dk).drewN k) := by
  rw [Go.Sort.alloc_eq_grow]
  obtain ⟨os', -, e⟩ := Go.Sort.putRow_grow_new encB w #[o] w.heap.size 0 dk (Nat.le_refl _)
  rw [e]
  exact pw_below_drewN (by have := Lib.below_grow w.heap.size w (Nat.le_refl _) 0 os'; simpa [World.drewN_zero] using this) k
set_option maxHeartbeats 8000000 in
theorem ifmt10 (u : Nat) (hu : u < 18446744073709551616) (w : World) (hT : PowW w) :
    Calls Tryz.prog 136 #[.int .u64 (u : Int), .int .i64 10] w fun e w' => e = .returned (.string ⟨(Lib.decDigits u).toArray⟩) ∧ Below w.heap.size w w' := by
  by_cases hs : u < 100
  · have t1 : decide ((u : Int) < 100) = true := decide_eq_true (by omega)
    have t2 : decide (u < 100) = true := decide_eq_true hs
    have HC := Aside0.mk (Tryz.internal_strconv_small u hs w)
    obtain ⟨x, hx⟩ : ∃ x, (u : Int) = x := ⟨_, rfl⟩
    rw [hx] at t1 HC ⊢
    have wx : wrap64 x = x := Ce.w64 (by omega) (by omega)
    clear hs hu hT hx t2
    go_enter Tryz.func136, Tryz.ntmps136
    go_wp2_with fail
    rw [wx]
    refine HC.out.mono ?_
    rintro e w' ⟨rfl, rfl⟩
    clear wx
    go_wp2_with fail
    go_ret
    exact ⟨rfl, Below.refl _ _⟩
  · have t1 : decide ((u : Int) < 100) = false := decide_eq_false (by omega)
    have t2 : decide (u < 100) = false := decide_eq_false hs
    have hu1 : 1 ≤ u := by omega
    have hnd : Lib.nDigits u ≤ 20 := by have := Lib.numDigits_eq u hu1 hu; split at this <;> omega
    have hal : Tryz.prog.arrayLen 214 = 24 := by kernel_rfl
    have hsl : ∀ W, (Instr.sliceAt 214 (.pointer (some ⟨w.heap.size, 0, none⟩)) none (some (.int .i64 (Lib.nDigits u : Int))) none).run Tryz.prog W = .ok (.slice (some ⟨w.heap.size, 0, none⟩) (Lib.nDigits u) 24) W := fun W => by
      rw [run_sliceAt_array_h W 214 ⟨w.heap.size, 0, none⟩ (by kernel_rfl) .i64 (Lib.nDigits u : Int) (by omega) (by rw [hal]; omega)]
      go_simp
      try omega
    have hH0 := holds_zero0 w 214 (Lib.nDigits u) (by omega)
    have hfmt := Tryz.internal_strconv_formatBase10 w.heap.size 0 24 u (Array.replicate (Lib.nDigits u) 0) (w.alloc (.cells Lib.zeros24 214)) hH0 (by rw [Array.size_replicate]; exact Lib.lt_pow_nDigits u) hu (by rw [Array.size_replicate]; omega)
    rw [Array.size_replicate] at hfmt
    have HF := Aside0.mk hfmt
    have HD := Aside0.mk (Tryz.internal_strconv_numDigits u hu1 hu (w.alloc (.cells Lib.zeros24 214)) (hT.below (below_alloc (Below.refl _ _) _)).tab)
    have HH := Aside0.mk hH0
    clear hfmt hH0 hs hal hT
    have HU := Aside0.mk (And.intro hu1 (And.intro hu hnd))
    clear hu1 hu hnd
    obtain ⟨nd, hnd⟩ : ∃ nd, Lib.nDigits u = nd := ⟨_, rfl⟩
    rw [hnd] at hsl HF HD HH
    have HN := Aside0.mk hnd
    clear hnd
    go_enter Tryz.func136, Tryz.ntmps136
    go_wp2_with fail
    refine HD.out.mono ?_
    rintro e w' ⟨rfl, rfl⟩
    clear HD
    go_wp2_with fail
    refine HF.out.mono ?_
    rintro e w' ⟨rfl, k, v', dk, rfl, hI⟩
    have hcv := run_convert_bytes_back (P := Tryz.prog) ((Go.Sort.putRow encB (w.alloc (.cells Lib.zeros24 214)) w.heap.size 0 dk).drewN k) 172 9 5 ⟨w.heap.size, 0, none⟩ 24 (Lib.decDigits u) Tryz.underlying172 Tryz.underlying5 Tryz.underlying9 (fun j hj => by
      have hI' : Lib.FmtInv (Lib.nDigits u) u 0 v' dk := by rw [HN.out]; exact hI
      have hj' : j < nd := by rw [← HN.out, ← Lib.decDigits_length]; exact hj
      rw [Lib.row_is_numeral hI' j hj, Lib.add_plain, World.cell?_drewN]
      exact Go.Sort.cell?_putRow encB _ w.heap.size 0 _ dk HH.out (by rw [hI.size, Array.size_replicate]) j (by rw [hI.size]; exact hj'))
    rw [Lib.decDigits_length, HN.out] at hcv
    have HBL := Aside0.mk (below_row w (.cells Lib.zeros24 214) dk k)
    clear HF HH hI
    generalize (Go.Sort.putRow encB (w.alloc (.cells Lib.zeros24 214)) w.heap.size 0 dk).drewN k = W at *
    go_wp2
    go_ret
    exact ⟨rfl, HBL.out⟩
theorem fmt10 (u : Nat) (hu : u < 18446744073709551616) (w : World) (hT : PowW w) :
    Calls Tryz.prog 110 #[.int .u64 (u : Int), .int .i64 10] w fun e w' => e = .returned (.string ⟨(Lib.decDigits u).toArray⟩) ∧ Below w.heap.size w w' := by
  have HI := Aside0.mk (ifmt10 u hu w hT)
  clear hu hT
  go_enter Tryz.func110, Tryz.ntmps110
  go_wp2_with fail
  refine HI.out.mono ?_
  rintro e w' ⟨rfl, hb⟩
  go_wp2_with fail
  go_ret
  exact ⟨rfl, hb⟩
end Go.Proofs.YtciolchdihlgfaaGreatDoor.Tx
