import Derived.Test.YtmoopdhnnpjcfaaDoorCoFF
/-! ColumnGreatest: the call. -/
namespace Go.Proofs.YtmoopdhnnpjcfaaDoor.Gr
open Go.RowKit Go.Proofs.YtmoopdhnnpjcfaaDoorW.PrintWords Go.Proofs.YtmoopdhnnpjcfaaDoorW.PrintLast Go.Proofs.YtmoopdhnnpjcfaaDoorW.PrintMore Go.Proofs.YtmoopdhnnpjcfaaDoor.Wire Go.Proofs.YtmoopdhnnpjcfaaDoor.PCo Go.Proofs.YtmoopdhnnpjcfaaDoor.CoG Go.Proofs.YtmoopdhnnpjcfaaDoor.Rd Go.Proofs.YtmoopdhnnpjcfaaDoor.Co
set_option linter.unusedVariables false
set_option linter.unusedSimpArgs false
set_option maxRecDepth 100000
theorem str_bytes (s : ByteArray) : strOfNums (bytesOf s) = s := by
  unfold strOfNums bytesOf
  rw [List.map_map]
  have : ((fun n : Int => UInt8.ofNat n.toNat) ∘ fun b : UInt8 => (b.toNat : Int)) = id := by
    funext b
    simp
  simp [this]
def two (a b : ByteArray) : List S47 := [⟨0, a⟩, ⟨0, b⟩]
def one_ (a : ByteArray) : List S47 := [⟨0, a⟩]
theorem chk3 {s : ByteArray} (h : s.size ≤ 200) : chk 3 0 s = 0 := by
  unfold chk
  rw [if_neg (by omega), if_pos (.inl rfl), if_neg (by decide), if_neg (by rintro ⟨h, -⟩; exact absurd h (by decide)), if_neg (by omega)]
theorem two_bytes {a b : ByteArray} (ha : a.size ≤ 200) (hb : b.size ≤ 200) : wBytes 3 (two a b) = tpart e0 a ++ tpart a b ∧ wErr 3 (two a b) = 0 := by
  have h : wErr 3 (two a b) = 0 := by
    rw [wErr, if_pos (by omega)]
    show (if (if (0 : Int) ≠ 0 then (0 : Int) else chk 3 0 a) ≠ 0 then (if (0 : Int) ≠ 0 then (0 : Int) else chk 3 0 a) else chk 3 0 b) = 0
    rw [chk3 ha, chk3 hb]
    rfl
  refine ⟨?_, h⟩
  rw [wBytes, if_pos h]
  rfl
theorem one_bytes {a : ByteArray} (ha : a.size ≤ 200) : wBytes 3 (one_ a) = tpart e0 a ∧ wErr 3 (one_ a) = 0 := by
  have h : wErr 3 (one_ a) = 0 := by
    rw [wErr, if_pos (by omega)]
    show (if (0 : Int) ≠ 0 then (0 : Int) else chk 3 0 a) = 0
    rw [chk3 ha]
    rfl
  refine ⟨?_, h⟩
  rw [wBytes, if_pos h]
  rfl
theorem two_calls {a b : ByteArray} (ha : a.size ≤ 200) (hb : b.size ≤ 200) (w : World) (hU : UtfW w) : Calls Tryd.prog 22 #[.int .i64 3, .slice (some ⟨w.heap.size, 0, none⟩) 2 2] (w.alloc (.cells #[.int .u64 0, .string a, .int .u64 0, .string b] 47)) fun e w' => ∃ v, e = .returned (.tuple #[v, .int .i64 0]) ∧ Kd.R (Kd.int .u8) 5 w' w.heap.size (fun _ => True) v (tpart e0 a ++ tpart a b) ∧ Below w.heap.size w w' := by
  have hrow := cells_row w (two a b) [.int .u64 0, .string a, .int .u64 0, .string b] (fun w' => Reps.c2 (k47_mkM _ _ _ _) (Reps.c2 (k47_mkM _ _ _ _) (Reps.none _ _))) (by simp [two])
  have hbl := below_alloc (Below.refl w.heap.size w) (.cells #[.int .u64 0, .string a, .int .u64 0, .string b] 47)
  refine (write_calls 3 (A := some ⟨w.heap.size, 0, none⟩) (c := 2) (l := two a b) _ hrow (by simp [two]) (small_of (by simp [two]) (fun x hx => by simp [two] at hx; rcases hx with rfl | rfl <;> (dsimp only; omega))) (nm_ok ⟨Int.le_refl 0, show (0 : Int) < 18446744073709551616 from by decide⟩) (hU.below hbl)).mono ?_
  rintro e w' ⟨v, rfl, hv, bl⟩
  rw [(two_bytes ha hb).1] at hv
  exact ⟨v, by rw [(two_bytes ha hb).2], Kd.R_lower hv (by simp), below_step hbl bl⟩
theorem one_calls {a : ByteArray} (ha : a.size ≤ 200) (w : World) (hU : UtfW w) : Calls Tryd.prog 22 #[.int .i64 3, .slice (some ⟨w.heap.size, 0, none⟩) 1 1] (w.alloc (.cells #[.int .u64 0, .string a] 47)) fun e w' => ∃ v, e = .returned (.tuple #[v, .int .i64 0]) ∧ Kd.R (Kd.int .u8) 5 w' w.heap.size (fun _ => True) v (tpart e0 a) ∧ Below w.heap.size w w' := by
  have hrow := cells_row w (one_ a) [.int .u64 0, .string a] (fun w' => Reps.c2 (k47_mkM _ _ _ _) (Reps.none _ _)) (by simp [one_])
  have hbl := below_alloc (Below.refl w.heap.size w) (.cells #[.int .u64 0, .string a] 47)
  refine (write_calls 3 (A := some ⟨w.heap.size, 0, none⟩) (c := 1) (l := one_ a) _ hrow (by simp [one_]) (small_of (by simp [one_]) (fun x hx => by simp [one_] at hx; subst hx; dsimp only; omega)) (nm_ok ⟨Int.le_refl 0, show (0 : Int) < 18446744073709551616 from by decide⟩) (hU.below hbl)).mono ?_
  rintro e w' ⟨v, rfl, hv, bl⟩
  rw [(one_bytes ha).1] at hv
  exact ⟨v, by rw [(one_bytes ha).2], Kd.R_lower hv (by simp), below_step hbl bl⟩
theorem size_calls (x : Nat) (hx : x < 18446744073709551616) (w : World) : Calls Tryd.prog 30 #[.int .u64 (x : Int)] w fun e w' => e = .returned (.int .i64 (usz x : Int)) ∧ Below w.heap.size w w' := wire_Size.calls 12 _ _ w (size x hx 12 (by decide))
set_option maxHeartbeats 8000000 in
theorem greatest_big (a b : ByteArray) (w : World) (hU : UtfW w) (h : 200 < a.size ∨ 200 < b.size) (ha : a.size ≤ 9223372036854775807) (hb : b.size ≤ 9223372036854775807) : Calls Tryd.prog 8 #[.string a, .string b] w fun e w' => e = .returned (.bool true) ∧ Below w.heap.size w w' := by
  have HU := Aside0.mk hU
  clear hU
  by_cases h1 : 200 < a.size
  · have t1 : decide ((200 : Int) < (a.size : Int)) = true := decide_eq_true (by omega)
    have t2 : decide (200 < a.size) = true := decide_eq_true h1
    clear h
    go_enter Tryd.func8, Tryd.ntmps8
    go_wp2_with fail
    refine (alive_calls _ HU.out).mono ?_
    rintro e w1 ⟨rfl, b1⟩
    go_wp2
    go_ret
    exact ⟨rfl, b1⟩
  · have t1 : decide ((200 : Int) < (a.size : Int)) = false := decide_eq_false (by omega)
    have t2 : decide (200 < a.size) = false := decide_eq_false h1
    have h2 : 200 < b.size := by omega
    have t3 : decide ((200 : Int) < (b.size : Int)) = true := decide_eq_true (by omega)
    have t4 : decide (200 < b.size) = true := decide_eq_true h2
    clear h
    go_enter Tryd.func8, Tryd.ntmps8
    go_wp2_with fail
    refine (alive_calls _ HU.out).mono ?_
    rintro e w1 ⟨rfl, b1⟩
    go_wp2
    go_ret
    exact ⟨rfl, b1⟩
set_option maxHeartbeats 8000000 in
theorem greatest_small (a b : ByteArray) (w : World) (hU : UtfW w) (ha : a.size ≤ 200) (hb : b.size ≤ 200) : Calls Tryd.prog 8 #[.string a, .string b] w fun e w' => e = .returned (.bool true) ∧ Below w.heap.size w w' := by
  have HU := Aside0.mk hU
  have HX := Aside0.mk (fun W h => two_calls ha hb W h)
  have HY := Aside0.mk (fun W h => one_calls ha W h)
  have HS := Aside0.mk (fun W => shared_calls a b (by omega) W)
  have HL := Aside0.mk (shared_le a b)
  have HPT := Aside0.mk (show tpart a b = uv (shared a b) ++ (uv (rest a b).length ++ rest a b) from rfl)
  have HRL := Aside0.mk (rest_len a b)
  have HRT := Aside0.mk (show bytesOf (b.extract (shared a b) b.size) = rest a b from bytes_rest b _)
  have HTS := Aside0.mk (ext_size b (shared a b))
  have t1 : decide ((200 : Int) < (a.size : Int)) = false := decide_eq_false (by omega)
  have t2 : decide (200 < a.size) = false := decide_eq_false (by omega)
  have t3 : decide ((200 : Int) < (b.size : Int)) = false := decide_eq_false (by omega)
  have t4 : decide (200 < b.size) = false := decide_eq_false (by omega)
  obtain ⟨S, hS⟩ : ∃ S, shared a b = S := ⟨_, rfl⟩
  rw [hS] at HS HL HPT HRL HRT HTS
  clear hS
  obtain ⟨Y, hY⟩ : ∃ Y, tpart e0 a = Y := ⟨_, rfl⟩
  rw [hY] at HX HY
  have hYl : Y.length ≤ 220 := by rw [← hY]; have := tpart_len (a := e0) (s := a) (by omega); omega
  clear hY
  obtain ⟨T, hT⟩ : ∃ T, rest a b = T := ⟨_, rfl⟩
  rw [hT] at HPT HRL HRT
  clear hT
  obtain ⟨t, ht⟩ : ∃ t, b.extract S b.size = t := ⟨_, rfl⟩
  have HT := Aside0.mk ht
  rw [ht] at HRT HTS
  clear ht
  obtain ⟨X, hXe⟩ : ∃ X, Y ++ tpart a b = X := ⟨_, rfl⟩
  rw [hXe] at HX
  have hTR : T.length = t.size := by rw [HRL.out, HTS.out]
  have hSb : S ≤ b.size := HL.out.2
  have hXlen : X.length = Y.length + usz S + usz t.size + t.size := by rw [← hXe, HPT.out, List.length_append, List.length_append, List.length_append, hTR]; unfold usz; omega
  have hXdrop : X.drop (X.length - t.size) = T := by
    rw [← hXe, HPT.out, ← List.append_assoc, ← List.append_assoc, List.drop_left' (by simp only [List.length_append]; omega)]
  have HXD := Aside0.mk hXdrop
  have hu1 : usz S ≤ 10 := usz_le10 (by omega)
  have hRb : t.size ≤ 200 := by have := HTS.out; omega
  have hu2 : usz t.size ≤ 10 := usz_le10 (by omega)
  have HZ1 := Aside0.mk (fun W => size_calls S (by omega) W)
  have HZ2 := Aside0.mk (fun W => size_calls t.size (by omega) W)
  obtain ⟨p, hp⟩ : ∃ p, usz S = p := ⟨_, rfl⟩
  obtain ⟨q, hq⟩ : ∃ q, usz t.size = q := ⟨_, rfl⟩
  rw [hp] at hXlen hu1 HZ1
  rw [hq] at hXlen hu2 HZ2
  obtain ⟨y, hy⟩ : ∃ y, Y.length = y := ⟨_, rfl⟩
  have HYL := Aside0.mk hy
  rw [hy] at hXlen hYl
  obtain ⟨x, hx⟩ : ∃ x, X.length = x := ⟨_, rfl⟩
  have HXL := Aside0.mk hx
  rw [hx] at hXlen
  have HLEN := Aside0.mk hXlen
  have s1 : decide ((S : Int) < 0) = false := decide_eq_false (by omega)
  have s2 : decide ((b.size : Int) < (S : Int)) = false := decide_eq_false (by omega)
  have s3 : decide (b.size < S) = false := decide_eq_false (by omega)
  have HTR := Aside0.mk hTR
  have e1 : decide ((x : Int) = (y : Int) + (p : Int) + (q : Int) + (t.size : Int)) = true := decide_eq_true (by omega)
  have e5 : ((x : Int) == (y : Int) + (p : Int) + (q : Int) + (t.size : Int)) = true := beq_iff_eq.mpr (by omega)
  have e2 : ((x : Int) = (y : Int) + (p : Int) + (q : Int) + (t.size : Int)) = True := eq_true (by omega)
  have e3 : decide ((t.size : Int) ≤ (x : Int)) = true := decide_eq_true (by omega)
  have e4 : decide (t.size ≤ x) = true := decide_eq_true (by omega)
  have hxb : x ≤ 500 := by omega
  have htx : t.size ≤ x := by omega
  clear hXdrop hXe hTR hp hq hy hx hXlen
  go_enter Tryd.func8, Tryd.ntmps8
  go_wp2_with fail
  refine (HX.out w HU.out).mono ?_
  rintro e w1 ⟨v1, rfl, hv1, b1⟩
  have B1 := Aside0.mk b1
  have U1 := Aside0.mk (HU.out.below b1)
  have V1 := Aside0.mk hv1
  clear b1 hv1 HX t1 t2 t3 t4
  obtain ⟨A1, c1, hs1⟩ := Kd.R_slice V1.out
  rw [HXL.out] at hs1
  subst hs1
  go_wp2_with fail
  refine (HY.out w1 U1.out).mono ?_
  rintro e w2 ⟨v2, rfl, hv2, b2⟩
  have B2 := Aside0.mk (below_step B1.out b2)
  have V12 := Aside0.mk (Kd.R_below V1.out b2)
  have V2 := Aside0.mk hv2
  clear b2 hv2 HY B1 V1 U1
  obtain ⟨A2, c2, hs2⟩ := Kd.R_slice V2.out
  rw [HYL.out] at hs2
  subst hs2
  go_wp2_with fail
  refine (HS.out _).mono ?_
  rintro e w3 ⟨rfl, b3⟩
  have B3 := Aside0.mk (below_step B2.out b3)
  have U3 := Aside0.mk (HU.out.below B3.out)
  have V13 := Aside0.mk (Kd.R_below V12.out b3)
  clear b3 B2 V12 HS V2
  go_wp2_with fail
  rw [HT.out]
  refine (alive_calls _ U3.out).mono ?_
  rintro e w4 ⟨rfl, b4⟩
  have B4 := Aside0.mk (below_step B3.out b4)
  have V14 := Aside0.mk (Kd.R_below V13.out b4)
  clear b4 B3 V13 U3 s1 s2 s3
  go_wp2_with fail
  refine (HZ1.out _).mono ?_
  rintro e w5 ⟨rfl, b5⟩
  have B5 := Aside0.mk (below_step B4.out b5)
  have V15 := Aside0.mk (Kd.R_below V14.out b5)
  clear b5 B4 V14 HZ1
  go_wp2_with fail
  refine (HZ2.out _).mono ?_
  rintro e w6 ⟨rfl, b6⟩
  have B6 := Aside0.mk (below_step B5.out b6)
  have V16 := Aside0.mk (Kd.R_below V15.out b6)
  clear b6 B5 V15 HZ2
  obtain ⟨-, hV16l, hV16c⟩ := Kd.R_reads' V16.out
  obtain ⟨A9, hcut, hA9, hc9⟩ := cut_rest (W := w6) (A := A1) (l := X) (c := c1) (a := x - t.size) hV16c (by rw [HXL.out]; exact hV16l) (by rw [HXL.out]; omega)
  have hcut1 := hcut w6
  rw [HXL.out, show ((x - t.size : Nat) : Int) = (x : Int) - (t.size : Int) by omega, show x - (x - t.size) = t.size by omega] at hcut1
  have hC9 := hA9 w6 hV16c
  have hk1 := Kd.C_string (P := Tryd.prog) (A := A9) (c := c1 - (x - t.size)) Tryd.underlying25 Tryd.underlying5 Tryd.underlying9 hC9
  rw [show X.drop (x - t.size) = T from by rw [← HXL.out]; exact HXD.out, HTR.out, show strOfNums T = t from by rw [← HRT.out]; exact str_bytes t] at hk1
  clear hcut hA9 hc9 hC9 V16 hV16c hV16l
  go_wp2_with fail
  go_ret
  exact ⟨rfl, B6.out⟩
theorem greatest_calls (a b : ByteArray) (w : World) (hU : UtfW w) (ha : a.size ≤ 9223372036854775807) (hb : b.size ≤ 9223372036854775807) : Calls Tryd.prog 8 #[.string a, .string b] w fun e w' => e = .returned (.bool true) ∧ Below w.heap.size w w' := by
  by_cases h : 200 < a.size ∨ 200 < b.size
  · exact greatest_big a b w hU h ha hb
  · exact greatest_small a b w hU (by omega) (by omega)
end Go.Proofs.YtmoopdhnnpjcfaaDoor.Gr
