import Derived.Test.YtciolchdihlgfaaGreatDoorTxJ
import Derived.Test.YtciolchdihlgfaaGreatDoorCeF
import Derived.Test.YtciolchdihlgfaaGreatDoorCeA
/-! CellBack: the call. -/
namespace Go.Proofs.YtciolchdihlgfaaGreatDoor.Tx
open Go.RowKit Go.Proofs.YtciolchdihlgfaaGreatDoorW.PrintWords Go.Proofs.YtciolchdihlgfaaGreatDoorW.PrintLast Go.Proofs.YtciolchdihlgfaaGreatDoorW.PrintMore Go.Proofs.YtciolchdihlgfaaGreatDoor.Wire Go.Proofs.YtciolchdihlgfaaGreatDoor.PCo Go.Proofs.YtciolchdihlgfaaGreatDoor.Co Go.Proofs.YtciolchdihlgfaaGreatDoor.Ce Go.Proofs.YtciolchdihlgfaaGreatDoor.Num
set_option linter.unusedVariables false
set_option linter.unusedSimpArgs false
set_option maxRecDepth 100000
open List (setIfInBounds_toArray set_cons_zero set_cons_succ map_toArray map_cons map_nil)
abbrev zc : Obj := .cells #[.int .u64 0, .string ⟨#[]⟩] 24 (0, 0)
theorem cmpi_0 {x y : Int} (hx : -9223372036854775808 ≤ x ∧ x ≤ 9223372036854775807) (hy : -9223372036854775808 ≤ y ∧ y ≤ 9223372036854775807) : cmpv 0 (IntKind.u64.wrap x) ⟨#[]⟩ (IntKind.u64.wrap y) ⟨#[]⟩ = cmpi x y := by
  have h : ∀ n, chk 0 n e0 = 0 := fun n => by unfold chk; rw [if_neg (by omega), if_neg (by omega), if_neg (by decide), if_neg (by omega)]
  have hw : ∀ z : Int, -9223372036854775808 ≤ z ∧ z ≤ 9223372036854775807 → rk 0 (IntKind.u64.wrap z) = z + 9223372036854775808 := fun z hz => by
    rw [show rk 0 (IntKind.u64.wrap z) = Ce.flip (IntKind.u64.wrap z) from if_pos rfl]
    rw [IntKind.wrap_u64]
    unfold Ce.flip
    split <;> omega
  unfold cmpv
  rw [if_neg (by rw [h, h]; simp)]
  unfold ord orv
  rw [show cb e0 e0 = 0 from by decide, hw x hx, hw y hy]
  unfold cmpi
  (repeat' split) <;> omega
theorem wrap_rng {x : Int} : 0 ≤ IntKind.u64.wrap x ∧ IntKind.u64.wrap x < 18446744073709551616 := by
  rw [IntKind.wrap_u64]; omega
theorem zs_wr {x : Int} (hx : -9223372036854775808 ≤ x ∧ x ≤ 9223372036854775807) : zs (IntKind.u64.wrap x) = x := by rw [u64_zu hx, zs_zu hx]
theorem dec_len : ∀ (k u : Nat), u < 10 ^ (k + 1) → (Lib.decDigits u).length ≤ k + 1
  | 0, u, h => by rw [Lib.decDigits, dif_pos (by simpa using h)]; simp
  | k + 1, u, h => by
    by_cases h10 : u < 10
    · rw [Lib.decDigits, dif_pos h10]; simp
    · rw [dec_step h10, List.length_append]
      have := dec_len k (u / 10) (by rw [Nat.pow_succ] at h; omega)
      simp only [List.length_singleton]; omega
theorem dec_len20 {u : Nat} (h : u < 18446744073709551616) : (Lib.decDigits u).length ≤ 20 := dec_len 19 u (by omega)
theorem itoa_len {v : Int} (h : -9223372036854775808 ≤ v ∧ v ≤ 9223372036854775807) : (Lib.itoa v).length ≤ 21 := by
  by_cases h0 : v < 0
  · obtain ⟨u, rfl⟩ : ∃ u : Nat, v = -(u : Int) := ⟨v.natAbs, by omega⟩
    rw [itoa_neg (by omega)]
    have := dec_len20 (u := u) (by omega)
    simp only [List.length_cons]; omega
  · obtain ⟨u, rfl⟩ : ∃ u : Nat, v = (u : Int) := ⟨v.toNat, by omega⟩
    rw [itoa_nat]
    have := dec_len20 (u := u) (by omega)
    omega
theorem tx_len {k m : Int} {s : ByteArray} (hm : 0 ≤ m ∧ m < 18446744073709551616) (hs : s.size ≤ 1000) : (tx k m s).length ≤ 2001 := by
  unfold tx
  split
  · have := itoa_len (zs_rng hm); omega
  split
  · have := dec_len20 (u := m.toNat) (by omega); omega
  split
  · split <;> decide
  split
  · rw [hexK_len]; omega
  · have := hexv_len s; rw [data_length]; omega
theorem ctx_len {k m : Int} {s : ByteArray} (hm : 0 ≤ m ∧ m < 18446744073709551616) (hs : s.size ≤ 1000) : (ctx k m s).size ≤ 2000000 := by
  have := tx_len (k := k) hm hs
  have e : (ctx k m s).size = (tx k m s).length := by show (tx k m s).toArray.size = _; exact List.size_toArray ..
  omega
theorem chk_size {k n : Int} {t : ByteArray} (h : chk k n t = 0) : t.size ≤ 256 := by
  unfold chk at h
  (repeat' split at h) <;> omega
theorem put_cell {U : World} {x : Nat} {a b : Value} (h : U.heap[x]? = some (.cells #[a, b] 24 (0, 0))) (v0 v1 : Value) :
    (((U.setCell ⟨x, 0, none⟩ v0).setCell ⟨x, 1, none⟩ v1).heap[x]? = some (.cells #[v0, v1] 24 (0, 0))) ∧ (∀ y, y ≠ x → ((U.setCell ⟨x, 0, none⟩ v0).setCell ⟨x, 1, none⟩ v1).heap[y]? = U.heap[y]?) :=
  ⟨blk_put (blk_put h 0 v0 rfl) 1 v1 rfl, fun y hy => (Below.heap_setCell (U.setCell ⟨x, 0, none⟩ v0) ⟨x, 1, none⟩ v1 y hy).trans (Below.heap_setCell U ⟨x, 0, none⟩ v0 y hy)⟩
theorem put_facts {U : World} {x : Nat} {a b : Value} (h : U.heap[x]? = some (.cells #[a, b] 24 (0, 0))) (v0 : Value) :
    U.cell? ⟨x, 0, none⟩ = some a ∧ U.cell? ⟨x, 1, none⟩ = some b ∧ U.frozen? ⟨x, 0, none⟩ = false ∧ U.frozen? ⟨x, 1, none⟩ = false ∧ (U.setCell ⟨x, 0, none⟩ v0).cell? ⟨x, 1, none⟩ = some b ∧ (U.setCell ⟨x, 0, none⟩ v0).frozen? ⟨x, 1, none⟩ = false :=
  have h2 : (U.setCell ⟨x, 0, none⟩ v0).heap[x]? = some (.cells #[v0, b] 24 (0, 0)) := blk_put h 0 v0 rfl
  ⟨blk_cell h 0, blk_cell h 1, blk_frozen h 0, blk_frozen h 1, blk_cell h2 1, blk_frozen h2 1⟩
/-- Two new cells. -/
def Z2 (W U : World) (a b : Nat) : Prop := U.heap[a]? = some zc ∧ U.heap[b]? = some zc ∧ a ≠ b ∧ (W.heap.size ≤ a ∧ W.heap.size ≤ b) ∧ Below W.heap.size W U
def Two (A : Nat) (x y : Int) (w' : World) : Prop := w'.cell? ⟨A, 0, none⟩ = some (.int .i64 x) ∧ w'.cell? ⟨A, 1, none⟩ = some (.int .i64 y)
theorem two {A : Nat} {x y : Int} {W U : World} (h : W.heap[A]? = some (.cells #[.int .i64 x, .int .i64 y] 36 (0, 0))) (hb : Below W.heap.size W U) : Two A x y U :=
  have hx := blk_lt h
  ⟨(cell_of_below h hx hb 0).trans rfl, (cell_of_below h hx hb 1).trans rfl⟩
theorem s3 {p q A : Nat} {X Y x y : Int} {W U : World} (h1 : W.heap[p]? = some (.cells #[.int .u64 X, .string ⟨#[]⟩] 24 (0, 0))) (h2 : W.heap[q]? = some (.cells #[.int .u64 Y, .string ⟨#[]⟩] 24 (0, 0))) (h3 : W.heap[A]? = some (.cells #[.int .i64 x, .int .i64 y] 36 (0, 0))) (hb : Below W.heap.size W U) :
    (U.cell? ⟨p, 0, none⟩ = some (.int .u64 X) ∧ U.cell? ⟨p, 1, none⟩ = some (.string ⟨#[]⟩)) ∧ (U.cell? ⟨q, 0, none⟩ = some (.int .u64 Y) ∧ U.cell? ⟨q, 1, none⟩ = some (.string ⟨#[]⟩)) ∧ Two A x y U :=
  ⟨⟨(cell_of_below h1 (blk_lt h1) hb 0).trans rfl, (cell_of_below h1 (blk_lt h1) hb 1).trans rfl⟩, ⟨(cell_of_below h2 (blk_lt h2) hb 0).trans rfl, (cell_of_below h2 (blk_lt h2) hb 1).trans rfl⟩, two h3 hb⟩
set_option maxHeartbeats 64000000 in
theorem back_calls (k m x y : Int) (s : ByteArray) (w : World) (hT : PowW w) (hBt : BitW w) (hU : UtfW w) (hE : ErrW w) (hm : 0 ≤ m ∧ m < 18446744073709551616) (hs : s.size ≤ 9223372036854775807) (hx : -9223372036854775808 ≤ x ∧ x ≤ 9223372036854775807) (hy : -9223372036854775808 ≤ y ∧ y ≤ 9223372036854775807) :
    Calls Tryz.prog 4 #[.int .i64 k, .agg #[.int .u64 m, .string s], .agg #[.int .i64 x, .int .i64 y]] w fun e w' => e = .returned (.bool true) ∧ Below w.heap.size w w' := by
  have HAL := Aside0.mk (fun (W : World) (hb : Below w.heap.size w W) => alive_calls W (hU.below hb))
  have hx0 := blk_alloc (heap_alloc_new w (.cells #[.int .u64 m, .string s] 24)) (.cells #[.int .i64 x, .int .i64 y] 36)
  have hx1 : ((w.alloc (.cells #[.int .u64 m, .string s] 24)).alloc (.cells #[.int .i64 x, .int .i64 y] 36)).heap[w.heap.size + 1]? = some (.cells #[.int .i64 x, .int .i64 y] 36 (0, 0)) := by simpa using heap_alloc_new (w.alloc (.cells #[.int .u64 m, .string s] 24)) (.cells #[.int .i64 x, .int .i64 y] 36)
  have hbw := below_alloc (below_alloc (Below.refl w.heap.size w) (.cells #[.int .u64 m, .string s] 24)) (.cells #[.int .i64 x, .int .i64 y] 36)
  by_cases hls : 1000 < s.size
  · have t1 : decide ((1000 : Int) < (s.size : Int)) = true := decide_eq_true (by omega)
    have t2 : decide (1000 < s.size) = true := decide_eq_true hls
    have HB := Aside0.mk hbw
    have BC := Aside0.mk hx0
    have c0 : ((w.alloc (.cells #[.int .u64 m, .string s] 24)).alloc (.cells #[.int .i64 x, .int .i64 y] 36)).cell? ⟨w.heap.size, 1, none⟩ = some (.string s) := (blk_cell BC.out 1).trans rfl
    clear hx hy hm hs hT hBt hU hE hls hx0 hx1 hbw
    go_enter Tryz.func4, Tryz.ntmps4
    go_wp2_with fail
    refine (HAL.out _ HB.out).mono ?_
    rintro e wq ⟨rfl, hq⟩
    have hfin := below_step HB.out hq
    go_wp2_with fail
    go_ret
    exact ⟨rfl, hfin⟩
  have t1 : decide ((1000 : Int) < (s.size : Int)) = false := decide_eq_false (by omega)
  have t2 : decide (1000 < s.size) = false := decide_eq_false hls
  have HTX := Aside0.mk (fun (W : World) (hb : Below w.heap.size w W) => text_calls k m s hm (by omega) W (hT.below hb) (hBt.below hb) (hU.below hb))
  have HRS := Aside0.mk (fun (W : World) (hb : Below w.heap.size w W) => Read_calls k s (by omega) W (hT.below hb) (hBt.below hb) (hU.below hb) (hE.below hb))
  obtain ⟨n, t, er, hcr⟩ : ∃ n t er, crd k s.data.toList = (n, t, er) := ⟨_, _, _, rfl⟩
  have HRD := Aside0.mk (fun (W : World) (hb : Below w.heap.size w W) => (HRS.out W hb).mono (R' := fun e w' => e = .returned (.tuple #[.agg #[.int .u64 n, .string t], .int .i64 er]) ∧ Below W.heap.size W w') (by
    rintro e w' ⟨n', t', er', h1, rfl, h2⟩
    rw [hcr] at h1
    injection h1 with h3 h4
    injection h4 with h4 h5
    subst h3 h4 h5
    exact ⟨rfl, h2⟩))
  clear HRS
  have H0 := Aside0.mk (fun (W : World) (hb : Below w.heap.size w W) => compare_calls 0 (IntKind.u64.wrap x) (IntKind.u64.wrap y) ⟨#[]⟩ ⟨#[]⟩ W wrap_rng wrap_rng (by decide) (by decide) (hU.below hb))
  rw [cmpi_0 hx hy] at H0
  have HSX := Aside0.mk (fun (W : World) => signed_calls (IntKind.u64.wrap x) ⟨#[]⟩ W wrap_rng)
  have HSY := Aside0.mk (fun (W : World) => signed_calls (IntKind.u64.wrap y) ⟨#[]⟩ W wrap_rng)
  rw [zs_wr hx] at HSX
  rw [zs_wr hy] at HSY
  obtain ⟨X, hX⟩ : ∃ X, IntKind.u64.wrap x = X := ⟨_, rfl⟩
  obtain ⟨Y, hY⟩ : ∃ Y, IntKind.u64.wrap y = Y := ⟨_, rfl⟩
  have HIX := Aside0.mk (fun (W : World) => cell_Int.calls x (IntKind.u64.wrap x) ⟨#[]⟩ W rfl)
  have HIY := Aside0.mk (fun (W : World) => cell_Int.calls y (IntKind.u64.wrap y) ⟨#[]⟩ W rfl)
  rw [hX] at H0 HSX HIX
  rw [hY] at H0 HSY HIY
  obtain ⟨c, e1, e2, hc⟩ : ∃ c : Int, (c < 0) = (x < y) ∧ (0 < c) = (y < x) ∧ cmpi x y = c := ⟨_, by unfold cmpi; (repeat' split) <;> simp <;> omega, by unfold cmpi; (repeat' split) <;> simp <;> omega, rfl⟩
  rw [hc] at H0
  have E12 := Aside0.mk (And.intro e1 e2)
  clear e1 e2 hc hX hY hx hy
  have HX0 := Aside0.mk hx0
  have HX1 := Aside0.mk hx1
  have HBW := Aside0.mk hbw
  clear hx0 hx1 hbw
  have c0 : ((w.alloc (.cells #[.int .u64 m, .string s] 24)).alloc (.cells #[.int .i64 x, .int .i64 y] 36)).cell? ⟨w.heap.size, 0, none⟩ = some (.int .u64 m) := (blk_cell HX0.out 0).trans rfl
  have c1 : ((w.alloc (.cells #[.int .u64 m, .string s] 24)).alloc (.cells #[.int .i64 x, .int .i64 y] 36)).cell? ⟨w.heap.size, 1, none⟩ = some (.string s) := (blk_cell HX0.out 1).trans rfl
  clear hs
  by_cases hch : chk k m s = 0
  · have hcy := crd_tx hm hch
    have hts : (ctx k m s).size ≤ 2000000 := ctx_len hm (by omega)
    have HRT := Aside0.mk (fun (W : World) (hb : Below w.heap.size w W) => (Read_calls k (ctx k m s) hts W (hT.below hb) (hBt.below hb) (hU.below hb) (hE.below hb)).mono (R' := fun e w' => e = .returned (.tuple #[.agg #[.int .u64 m, .string s], .int .i64 0]) ∧ Below W.heap.size W w') (by
      rintro e w' ⟨n', t', er', h1, rfl, h2⟩
      rw [show (ctx k m s).data.toList = tx k m s from List.toList_toArray .., hcy] at h1
      injection h1 with h3 h4
      injection h4 with h4 h5
      subst h3 h4 h5
      exact ⟨rfl, h2⟩))
    rw [hch, if_pos rfl] at HTX
    obtain ⟨u, hu⟩ : ∃ u, ctx k m s = u := ⟨_, rfl⟩
    rw [hu] at HTX HRT
    clear hu hts hcy hch
    go_enter Tryz.func4, Tryz.ntmps4
    go_wp2_with fail
    clear c0 c1
    obtain ⟨W3, hW3⟩ : ∃ W3, (w.alloc (.cells #[.int .u64 m, .string s] 24)).alloc (.cells #[.int .i64 x, .int .i64 y] 36) = W3 := ⟨_, rfl⟩
    have HB := Aside0.mk (show Below w.heap.size w W3 from by rw [← hW3]; exact HBW.out)
    have BC := Aside0.mk (show W3.heap[w.heap.size]? = some (.cells #[.int .u64 m, .string s] 24 (0, 0)) from by rw [← hW3]; exact HX0.out)
    have BN := Aside0.mk (show W3.heap[w.heap.size + 1]? = some (.cells #[.int .i64 x, .int .i64 y] 36 (0, 0)) from by rw [← hW3]; exact HX1.out)
    rw [hW3]
    clear hW3 HX0 HX1 HBW
    refine (HTX.out _ HB.out).mono ?_
    rintro e w4 ⟨rfl, hb⟩
    replace BC := Aside0.mk (blk_below BC.out hb)
    replace BN := Aside0.mk (blk_below BN.out hb)
    replace HB := Aside0.mk (below_step HB.out hb)
    clear hb
    go_wp2_with fail
    refine (HRT.out _ HB.out).mono ?_
    rintro e w5 ⟨rfl, hb⟩
    replace BC := Aside0.mk (blk_below BC.out hb)
    replace BN := Aside0.mk (blk_below BN.out hb)
    replace HB := Aside0.mk (below_step HB.out hb)
    clear hb
    go_wp2_with (first | ((with_reducible refine gate_dst (N := 10) rfl ?_); refine box_event ?hg (N := 10) ?hd (cs := #[.int .u64 0, .string (⟨#[]⟩ : ByteArray)]) (t := 24) ?hr ?_; (case hd => rfl); (case hg => rfl); (case hr => first | (go_simp; done) | (go_simp; rfl)); intro g hg wb hbox hb; have hpc := blk_lt BC.out; have hpn := blk_lt BN.out; replace HB := Aside0.mk (below_step HB.out hb); replace BC := Aside0.mk (blk_below BC.out hb); replace BN := Aside0.mk (blk_below BN.out hb); have BG := Aside0.mk hbox; have HG := Aside0.mk (show w.heap.size ≤ g from by omega); have NE := Aside0.mk (show w.heap.size ≠ g ∧ w.heap.size + 1 ≠ g from ⟨by omega, by omega⟩); clear hpc hpn hb; obtain ⟨c0, c1, f0, f1, c2, f2⟩ := put_facts BG.out (.int .u64 0); clear hbox hg) | ((with_reducible refine gate_dst (N := 41) rfl ?_); obtain ⟨W', hW'⟩ : ∃ W, (wb.setCell ⟨g, 0, none⟩ (.int .u64 m)).setCell ⟨g, 1, none⟩ (.string s) = W := ⟨_, rfl⟩; rw [hW']; have pc := put_cell BG.out (.int .u64 m) (.string s); have hbs := below_set (j := 1) (v := .string s) (below_set (j := 0) (v := .int .u64 m) HB.out HG.out) HG.out; rw [hW'] at pc hbs; replace HB := Aside0.mk hbs; replace BG := Aside0.mk pc.1; replace BC := Aside0.mk ((pc.2 _ NE.out.1).trans BC.out); replace BN := Aside0.mk ((pc.2 _ NE.out.2).trans BN.out); clear pc hbs hW' c0 c1 f0 f1 c2 f2; have dG0 : W'.cell? ⟨g, 0, none⟩ = some (.int .u64 m) := (blk_cell BG.out 0).trans rfl; have dG1 : W'.cell? ⟨g, 1, none⟩ = some (.string s) := (blk_cell BG.out 1).trans rfl; have dC0 : W'.cell? ⟨w.heap.size, 0, none⟩ = some (.int .u64 m) := (blk_cell BC.out 0).trans rfl; have dC1 : W'.cell? ⟨w.heap.size, 1, none⟩ = some (.string s) := (blk_cell BC.out 1).trans rfl))
    try clear dG0 dG1 dC0 dC1
    clear BG HG NE
    by_cases her : er = 0
    · subst her
      obtain ⟨hs1, hs2, hn⟩ := tx_crd hcr
      have hts := chk_size hs2
      have HTN := Aside0.mk (fun (W : World) (hb : Below w.heap.size w W) => text_calls k n t hn (by omega) W (hT.below hb) (hBt.below hb) (hU.below hb))
      have HCN := Aside0.mk (fun (W : World) (hb : Below w.heap.size w W) => check_calls k n t W (by omega) (hU.below hb))
      rw [hs2, if_pos rfl, show ctx k n t = s from by unfold ctx; rw [hs1]] at HTN
      rw [hs2] at HCN
      clear hs1 hs2 hn hts hcr hls hm hT hBt hU hE
      go_wp2_with fail
      refine (HRD.out _ HB.out).mono ?_
      rintro e w6 ⟨rfl, hb⟩
      replace BC := Aside0.mk (blk_below BC.out hb)
      replace BN := Aside0.mk (blk_below BN.out hb)
      replace HB := Aside0.mk (below_step HB.out hb)
      clear hb
      go_wp2_with (first | ((with_reducible refine gate_dst (N := 12) rfl ?_); refine box_event ?hg (N := 12) ?hd (cs := #[.int .u64 0, .string (⟨#[]⟩ : ByteArray)]) (t := 24) ?hr ?_; (case hd => rfl); (case hg => rfl); (case hr => first | (go_simp; done) | (go_simp; rfl)); intro g hg wb hbox hb; have hpc := blk_lt BC.out; have hpn := blk_lt BN.out; replace HB := Aside0.mk (below_step HB.out hb); replace BC := Aside0.mk (blk_below BC.out hb); replace BN := Aside0.mk (blk_below BN.out hb); have BG := Aside0.mk hbox; have HG := Aside0.mk (show w.heap.size ≤ g from by omega); have NE := Aside0.mk (show w.heap.size ≠ g ∧ w.heap.size + 1 ≠ g from ⟨by omega, by omega⟩); clear hpc hpn hb; obtain ⟨c0, c1, f0, f1, c2, f2⟩ := put_facts BG.out (.int .u64 0); clear hbox hg) | ((with_reducible refine gate_dst (N := 55) rfl ?_); obtain ⟨W', hW'⟩ : ∃ W, (wb.setCell ⟨g, 0, none⟩ (.int .u64 n)).setCell ⟨g, 1, none⟩ (.string t) = W := ⟨_, rfl⟩; rw [hW']; have pc := put_cell BG.out (.int .u64 n) (.string t); have hbs := below_set (j := 1) (v := .string t) (below_set (j := 0) (v := .int .u64 n) HB.out HG.out) HG.out; rw [hW'] at pc hbs; replace HB := Aside0.mk hbs; replace BG := Aside0.mk pc.1; replace BC := Aside0.mk ((pc.2 _ NE.out.1).trans BC.out); replace BN := Aside0.mk ((pc.2 _ NE.out.2).trans BN.out); clear pc hbs hW' c0 c1 f0 f1 c2 f2; have dG0 : W'.cell? ⟨g, 0, none⟩ = some (.int .u64 n) := (blk_cell BG.out 0).trans rfl; have dG1 : W'.cell? ⟨g, 1, none⟩ = some (.string t) := (blk_cell BG.out 1).trans rfl))
      refine (HTN.out _ HB.out).mono ?_
      rintro e w7 ⟨rfl, hb⟩
      clear dG0 dG1
      replace BG := Aside0.mk (blk_below BG.out hb)
      replace BN := Aside0.mk (blk_below BN.out hb)
      replace HB := Aside0.mk (below_step HB.out hb)
      clear hb
      have dG0 : w7.cell? ⟨g, 0, none⟩ = some (.int .u64 n) := (blk_cell BG.out 0).trans rfl
      have dG1 : w7.cell? ⟨g, 1, none⟩ = some (.string t) := (blk_cell BG.out 1).trans rfl
      go_wp2_with fail
      refine (HCN.out _ HB.out).mono ?_
      rintro e w8 ⟨rfl, hb⟩
      clear dG0 dG1
      replace BN := Aside0.mk (blk_below BN.out hb)
      replace HB := Aside0.mk (below_step HB.out hb)
      clear hb
      go_wp2_with fail
      replace BN := Aside0.mk (show w8.drew.heap[w.heap.size + 1]? = some (.cells #[.int .i64 x, .int .i64 y] 36 (0, 0)) from BN.out)
      replace HB := Aside0.mk (below_drew1 HB.out)
      refine start_ (n := 10) (S := Two (w.heap.size + 1) x y) (ds := []) #[false, false, false, false, false, false, false, false, false, false] (by kernel_rfl) rfl rfl (two BN.out (Below.refl _ _)) (fun hHeld => ?_)
      generalize w8.drew = V at *
      clear w8
      refine take_ (i := 0) (N := some 72) (v := ?_) (a' := ?_) #[true, false, false, false, false, false, false, false, false, false] rfl rfl (take_of rfl (by kernel_rfl)) (fun _ _ _ h => h) (Or.inl ⟨by rfl, ?_⟩) hHeld ?_ ?_
      rotate_left
      · rintro w' ⟨q0, q1⟩
        go_simp
        with_reducible rfl
      rotate_left
      · simp only [Act.put, setIfInBounds_toArray, set_cons_zero, set_cons_succ, i64_w, i32_w]
        rfl
      refine take_ (i := 3) (N := some 75) (v := ?_) (a' := ?_) #[true, false, false, true, false, false, false, false, false, false] rfl rfl (take_of rfl (by kernel_rfl)) (fun _ _ _ h => h) (Or.inl ⟨by rfl, ?_⟩) hHeld ?_ ?_
      rotate_left
      · rintro w' ⟨q0, q1⟩
        go_simp
        with_reducible rfl
      rotate_left
      · simp only [Act.put, setIfInBounds_toArray, set_cons_zero, set_cons_succ, i64_w, i32_w]
        rfl
      refine take_ (i := 1) (N := some 73) (v := ?_) (a' := ?_) #[true, true, false, true, false, false, false, false, false, false] rfl rfl (take_of rfl (by kernel_rfl)) (fun _ _ _ h => h) (Or.inl ⟨by rfl, ?_⟩) hHeld ?_ ?_
      rotate_left
      · rintro w' ⟨q0, q1⟩
        go_simp
        with_reducible rfl
      rotate_left
      · simp only [Act.put, setIfInBounds_toArray, set_cons_zero, set_cons_succ, i64_w, i32_w]
        rfl
      refine take_ (i := 4) (N := some 76) (v := ?_) (a' := ?_) #[true, true, false, true, true, false, false, false, false, false] rfl rfl (take_of rfl (by kernel_rfl)) (fun _ _ _ h => h) (Or.inl ⟨by rfl, ?_⟩) hHeld ?_ ?_
      rotate_left
      · rintro w' ⟨q0, q1⟩
        go_simp
        with_reducible rfl
      rotate_left
      · simp only [Act.put, setIfInBounds_toArray, set_cons_zero, set_cons_succ, i64_w, i32_w]
        rfl
      refine join_ (σ := Nat × Nat) 2 #[true, true, true, true, true, true, true, true, false, false] (fun s => [(74, .agg #[.int .u64 X, .string ⟨#[]⟩]), (77, .agg #[.int .u64 Y, .string ⟨#[]⟩]), (16, .pointer (some ⟨s.1, 0, none⟩)), (17, .pointer (some ⟨s.2, 0, none⟩))]) (fun s w' => Z2 V w' s.1 s.2) ?_ (fun hcont => ?_)
      rotate_left
      · refine three_ (i := 2) (j := 6) (k := 7) (Ni := some 74) (Nj := some 16) (Nk := some 17) #[true, true, true, true, true, false, false, false, false, false] #[true, true, false, true, true, false, true, false, false, false] #[true, true, false, true, true, false, false, true, false, false] rfl rfl rfl rfl rfl rfl (three_of rfl (by kernel_rfl)) (by decide) (by decide) (by decide) (fun K hK => ?_) (fun K hK => ?_) (fun K hK => ?_)
        · refine goes_ Tryz.func25 (by kernel_rfl) rfl #[.int .i64 x] (by rfl) rfl rfl (by (try simp only [map_toArray, map_cons, map_nil]); rfl) ?_
          refine (HIX.out _).mono ?_
          rintro e U0 ⟨rfl, hc⟩
          refine ⟨_, rfl, ?_⟩
          have hb0 := below_step (Below.refl V.heap.size V) hc
          refine hK.out _ _ (two BN.out hb0) (fun _ => ?_)
          clear hK K hc
          refine norm_ (a' := ?_) ?_ ?_
          rotate_left
          · show Act.put _ (some 74) _ = _
            simp only [Act.put, setIfInBounds_toArray, set_cons_zero, set_cons_succ, i64_w, i32_w]
            rfl
          refine three_ (i := 5) (j := 6) (k := 7) (Ni := some 77) (Nj := some 16) (Nk := some 17) #[true, true, true, true, true, true, false, false, false, false] #[true, true, true, true, true, false, true, false, false, false] #[true, true, true, true, true, false, false, true, false, false] rfl rfl rfl rfl rfl rfl (three_of rfl (by kernel_rfl)) (by decide) (by decide) (by decide) (fun K hK => ?_) (fun K hK => ?_) (fun K hK => ?_)
          · refine goes_ Tryz.func25 (by kernel_rfl) rfl #[.int .i64 y] (by rfl) rfl rfl (by (try simp only [map_toArray, map_cons, map_nil]); rfl) ?_
            refine (HIY.out _).mono ?_
            rintro e U1 ⟨rfl, hc⟩
            refine ⟨_, rfl, ?_⟩
            have hb1 := below_step hb0 hc
            refine hK.out _ _ (two BN.out hb1) (fun _ => ?_)
            clear hK K hc
            refine norm_ (a' := ?_) ?_ ?_
            rotate_left
            · show Act.put _ (some 77) _ = _
              simp only [Act.put, setIfInBounds_toArray, set_cons_zero, set_cons_succ, i64_w, i32_w]
              rfl
            refine two_ (i := 6) (j := 7) (Ni := some 16) (Nj := some 17) #[true, true, true, true, true, true, true, false, false, false] #[true, true, true, true, true, true, false, true, false, false] rfl rfl rfl rfl (two_of rfl (by kernel_rfl)) (by decide) (by decide) (fun K hK => ?_) (fun K hK => ?_)
            · refine value_ (v := .pointer (some ⟨U1.heap.size, 0, none⟩)) (w1 := U1.alloc zc) (by rfl) rfl (by go_simp) ?_
              have z6 := heap_alloc_new U1 zc
              have g6 := hb1.size
              have hb2 := below_alloc hb1 zc
              refine hK.out _ _ (two BN.out hb2) (fun _ => ?_)
              clear hK K
              refine norm_ (a' := ?_) ?_ ?_
              rotate_left
              · show Act.put _ (some 16) _ = _
                simp only [Act.put, setIfInBounds_toArray, set_cons_zero, set_cons_succ, i64_w, i32_w]
                rfl
              obtain ⟨U2, hU2⟩ : ∃ u_, U1.alloc zc = u_ := ⟨_, rfl⟩
              rw [hU2] at z6 hb2 ⊢
              obtain ⟨p6, hp⟩ : ∃ p, U1.heap.size = p := ⟨_, rfl⟩
              rw [hp] at z6 g6  ⊢
              clear hU2 hp
              refine one_ (i := 7) (N := some 17) #[true, true, true, true, true, true, true, true, false, false] rfl rfl (one_of rfl (by kernel_rfl)) (by decide) (fun K hK => ?_)
              refine value_ (v := .pointer (some ⟨U2.heap.size, 0, none⟩)) (w1 := U2.alloc zc) (by rfl) rfl (by go_simp) ?_
              have z7 := heap_alloc_new U2 zc
              have g7 := hb2.size
              have ne : p6 ≠ U2.heap.size := Nat.ne_of_lt (blk_lt z6)
              replace z6 := blk_alloc z6 zc
              have hb3 := below_alloc hb2 zc
              refine hK.out _ _ (two BN.out hb3) (fun _ => ?_)
              clear hK K
              refine norm_ (a' := ?_) ?_ ?_
              rotate_left
              · show Act.put _ (some 17) _ = _
                simp only [Act.put, setIfInBounds_toArray, set_cons_zero, set_cons_succ, i64_w, i32_w]
                rfl
              obtain ⟨U3, hU2⟩ : ∃ u_, U2.alloc zc = u_ := ⟨_, rfl⟩
              rw [hU2] at z7 hb3 z6 ⊢
              obtain ⟨p7, hp⟩ : ∃ p, U2.heap.size = p := ⟨_, rfl⟩
              rw [hp] at z7 g7 ne ⊢
              clear hU2 hp
              exact hcont (p6, p7) _ ⟨z6, z7, ne, ⟨g6, g7⟩, hb3⟩
            · refine value_ (v := .pointer (some ⟨U1.heap.size, 0, none⟩)) (w1 := U1.alloc zc) (by rfl) rfl (by go_simp) ?_
              have z7 := heap_alloc_new U1 zc
              have g7 := hb1.size
              have hb2 := below_alloc hb1 zc
              refine hK.out _ _ (two BN.out hb2) (fun _ => ?_)
              clear hK K
              refine norm_ (a' := ?_) ?_ ?_
              rotate_left
              · show Act.put _ (some 17) _ = _
                simp only [Act.put, setIfInBounds_toArray, set_cons_zero, set_cons_succ, i64_w, i32_w]
                rfl
              obtain ⟨U2, hU2⟩ : ∃ u_, U1.alloc zc = u_ := ⟨_, rfl⟩
              rw [hU2] at z7 hb2 ⊢
              obtain ⟨p7, hp⟩ : ∃ p, U1.heap.size = p := ⟨_, rfl⟩
              rw [hp] at z7 g7  ⊢
              clear hU2 hp
              refine one_ (i := 6) (N := some 16) #[true, true, true, true, true, true, true, true, false, false] rfl rfl (one_of rfl (by kernel_rfl)) (by decide) (fun K hK => ?_)
              refine value_ (v := .pointer (some ⟨U2.heap.size, 0, none⟩)) (w1 := U2.alloc zc) (by rfl) rfl (by go_simp) ?_
              have z6 := heap_alloc_new U2 zc
              have g6 := hb2.size
              have ne : p7 ≠ U2.heap.size := Nat.ne_of_lt (blk_lt z7)
              replace z7 := blk_alloc z7 zc
              have hb3 := below_alloc hb2 zc
              refine hK.out _ _ (two BN.out hb3) (fun _ => ?_)
              clear hK K
              refine norm_ (a' := ?_) ?_ ?_
              rotate_left
              · show Act.put _ (some 16) _ = _
                simp only [Act.put, setIfInBounds_toArray, set_cons_zero, set_cons_succ, i64_w, i32_w]
                rfl
              obtain ⟨U3, hU2⟩ : ∃ u_, U2.alloc zc = u_ := ⟨_, rfl⟩
              rw [hU2] at z6 hb3 z7 ⊢
              obtain ⟨p6, hp⟩ : ∃ p, U2.heap.size = p := ⟨_, rfl⟩
              rw [hp] at z6 g6 ne ⊢
              clear hU2 hp
              exact hcont (p6, p7) _ ⟨z6, z7, (fun h => ne h.symm), ⟨g6, g7⟩, hb3⟩
          · refine value_ (v := .pointer (some ⟨U0.heap.size, 0, none⟩)) (w1 := U0.alloc zc) (by rfl) rfl (by go_simp) ?_
            have z6 := heap_alloc_new U0 zc
            have g6 := hb0.size
            have hb1 := below_alloc hb0 zc
            refine hK.out _ _ (two BN.out hb1) (fun _ => ?_)
            clear hK K
            refine norm_ (a' := ?_) ?_ ?_
            rotate_left
            · show Act.put _ (some 16) _ = _
              simp only [Act.put, setIfInBounds_toArray, set_cons_zero, set_cons_succ, i64_w, i32_w]
              rfl
            obtain ⟨U1, hU2⟩ : ∃ u_, U0.alloc zc = u_ := ⟨_, rfl⟩
            rw [hU2] at z6 hb1 ⊢
            obtain ⟨p6, hp⟩ : ∃ p, U0.heap.size = p := ⟨_, rfl⟩
            rw [hp] at z6 g6  ⊢
            clear hU2 hp
            refine two_ (i := 5) (j := 7) (Ni := some 77) (Nj := some 17) #[true, true, true, true, true, true, true, false, false, false] #[true, true, true, true, true, false, true, true, false, false] rfl rfl rfl rfl (two_of rfl (by kernel_rfl)) (by decide) (by decide) (fun K hK => ?_) (fun K hK => ?_)
            · refine goes_ Tryz.func25 (by kernel_rfl) rfl #[.int .i64 y] (by rfl) rfl rfl (by (try simp only [map_toArray, map_cons, map_nil]); rfl) ?_
              refine (HIY.out _).mono ?_
              rintro e U2 ⟨rfl, hc⟩
              refine ⟨_, rfl, ?_⟩
              have hb2 := below_step hb1 hc
              replace z6 := blk_below z6 hc
              refine hK.out _ _ (two BN.out hb2) (fun _ => ?_)
              clear hK K hc
              refine norm_ (a' := ?_) ?_ ?_
              rotate_left
              · show Act.put _ (some 77) _ = _
                simp only [Act.put, setIfInBounds_toArray, set_cons_zero, set_cons_succ, i64_w, i32_w]
                rfl
              refine one_ (i := 7) (N := some 17) #[true, true, true, true, true, true, true, true, false, false] rfl rfl (one_of rfl (by kernel_rfl)) (by decide) (fun K hK => ?_)
              refine value_ (v := .pointer (some ⟨U2.heap.size, 0, none⟩)) (w1 := U2.alloc zc) (by rfl) rfl (by go_simp) ?_
              have z7 := heap_alloc_new U2 zc
              have g7 := hb2.size
              have ne : p6 ≠ U2.heap.size := Nat.ne_of_lt (blk_lt z6)
              replace z6 := blk_alloc z6 zc
              have hb3 := below_alloc hb2 zc
              refine hK.out _ _ (two BN.out hb3) (fun _ => ?_)
              clear hK K
              refine norm_ (a' := ?_) ?_ ?_
              rotate_left
              · show Act.put _ (some 17) _ = _
                simp only [Act.put, setIfInBounds_toArray, set_cons_zero, set_cons_succ, i64_w, i32_w]
                rfl
              obtain ⟨U3, hU2⟩ : ∃ u_, U2.alloc zc = u_ := ⟨_, rfl⟩
              rw [hU2] at z7 hb3 z6 ⊢
              obtain ⟨p7, hp⟩ : ∃ p, U2.heap.size = p := ⟨_, rfl⟩
              rw [hp] at z7 g7 ne ⊢
              clear hU2 hp
              exact hcont (p6, p7) _ ⟨z6, z7, ne, ⟨g6, g7⟩, hb3⟩
            · refine value_ (v := .pointer (some ⟨U1.heap.size, 0, none⟩)) (w1 := U1.alloc zc) (by rfl) rfl (by go_simp) ?_
              have z7 := heap_alloc_new U1 zc
              have g7 := hb1.size
              have ne : p6 ≠ U1.heap.size := Nat.ne_of_lt (blk_lt z6)
              replace z6 := blk_alloc z6 zc
              have hb2 := below_alloc hb1 zc
              refine hK.out _ _ (two BN.out hb2) (fun _ => ?_)
              clear hK K
              refine norm_ (a' := ?_) ?_ ?_
              rotate_left
              · show Act.put _ (some 17) _ = _
                simp only [Act.put, setIfInBounds_toArray, set_cons_zero, set_cons_succ, i64_w, i32_w]
                rfl
              obtain ⟨U2, hU2⟩ : ∃ u_, U1.alloc zc = u_ := ⟨_, rfl⟩
              rw [hU2] at z7 hb2 z6 ⊢
              obtain ⟨p7, hp⟩ : ∃ p, U1.heap.size = p := ⟨_, rfl⟩
              rw [hp] at z7 g7 ne ⊢
              clear hU2 hp
              refine one_ (i := 5) (N := some 77) #[true, true, true, true, true, true, true, true, false, false] rfl rfl (one_of rfl (by kernel_rfl)) (by decide) (fun K hK => ?_)
              refine goes_ Tryz.func25 (by kernel_rfl) rfl #[.int .i64 y] (by rfl) rfl rfl (by (try simp only [map_toArray, map_cons, map_nil]); rfl) ?_
              refine (HIY.out _).mono ?_
              rintro e U3 ⟨rfl, hc⟩
              refine ⟨_, rfl, ?_⟩
              have hb3 := below_step hb2 hc
              replace z6 := blk_below z6 hc
              replace z7 := blk_below z7 hc
              refine hK.out _ _ (two BN.out hb3) (fun _ => ?_)
              clear hK K hc
              refine norm_ (a' := ?_) ?_ ?_
              rotate_left
              · show Act.put _ (some 77) _ = _
                simp only [Act.put, setIfInBounds_toArray, set_cons_zero, set_cons_succ, i64_w, i32_w]
                rfl
              exact hcont (p6, p7) _ ⟨z6, z7, ne, ⟨g6, g7⟩, hb3⟩
          · refine value_ (v := .pointer (some ⟨U0.heap.size, 0, none⟩)) (w1 := U0.alloc zc) (by rfl) rfl (by go_simp) ?_
            have z7 := heap_alloc_new U0 zc
            have g7 := hb0.size
            have hb1 := below_alloc hb0 zc
            refine hK.out _ _ (two BN.out hb1) (fun _ => ?_)
            clear hK K
            refine norm_ (a' := ?_) ?_ ?_
            rotate_left
            · show Act.put _ (some 17) _ = _
              simp only [Act.put, setIfInBounds_toArray, set_cons_zero, set_cons_succ, i64_w, i32_w]
              rfl
            obtain ⟨U1, hU2⟩ : ∃ u_, U0.alloc zc = u_ := ⟨_, rfl⟩
            rw [hU2] at z7 hb1 ⊢
            obtain ⟨p7, hp⟩ : ∃ p, U0.heap.size = p := ⟨_, rfl⟩
            rw [hp] at z7 g7  ⊢
            clear hU2 hp
            refine two_ (i := 5) (j := 6) (Ni := some 77) (Nj := some 16) #[true, true, true, true, true, true, false, true, false, false] #[true, true, true, true, true, false, true, true, false, false] rfl rfl rfl rfl (two_of rfl (by kernel_rfl)) (by decide) (by decide) (fun K hK => ?_) (fun K hK => ?_)
            · refine goes_ Tryz.func25 (by kernel_rfl) rfl #[.int .i64 y] (by rfl) rfl rfl (by (try simp only [map_toArray, map_cons, map_nil]); rfl) ?_
              refine (HIY.out _).mono ?_
              rintro e U2 ⟨rfl, hc⟩
              refine ⟨_, rfl, ?_⟩
              have hb2 := below_step hb1 hc
              replace z7 := blk_below z7 hc
              refine hK.out _ _ (two BN.out hb2) (fun _ => ?_)
              clear hK K hc
              refine norm_ (a' := ?_) ?_ ?_
              rotate_left
              · show Act.put _ (some 77) _ = _
                simp only [Act.put, setIfInBounds_toArray, set_cons_zero, set_cons_succ, i64_w, i32_w]
                rfl
              refine one_ (i := 6) (N := some 16) #[true, true, true, true, true, true, true, true, false, false] rfl rfl (one_of rfl (by kernel_rfl)) (by decide) (fun K hK => ?_)
              refine value_ (v := .pointer (some ⟨U2.heap.size, 0, none⟩)) (w1 := U2.alloc zc) (by rfl) rfl (by go_simp) ?_
              have z6 := heap_alloc_new U2 zc
              have g6 := hb2.size
              have ne : p7 ≠ U2.heap.size := Nat.ne_of_lt (blk_lt z7)
              replace z7 := blk_alloc z7 zc
              have hb3 := below_alloc hb2 zc
              refine hK.out _ _ (two BN.out hb3) (fun _ => ?_)
              clear hK K
              refine norm_ (a' := ?_) ?_ ?_
              rotate_left
              · show Act.put _ (some 16) _ = _
                simp only [Act.put, setIfInBounds_toArray, set_cons_zero, set_cons_succ, i64_w, i32_w]
                rfl
              obtain ⟨U3, hU2⟩ : ∃ u_, U2.alloc zc = u_ := ⟨_, rfl⟩
              rw [hU2] at z6 hb3 z7 ⊢
              obtain ⟨p6, hp⟩ : ∃ p, U2.heap.size = p := ⟨_, rfl⟩
              rw [hp] at z6 g6 ne ⊢
              clear hU2 hp
              exact hcont (p6, p7) _ ⟨z6, z7, (fun h => ne h.symm), ⟨g6, g7⟩, hb3⟩
            · refine value_ (v := .pointer (some ⟨U1.heap.size, 0, none⟩)) (w1 := U1.alloc zc) (by rfl) rfl (by go_simp) ?_
              have z6 := heap_alloc_new U1 zc
              have g6 := hb1.size
              have ne : p7 ≠ U1.heap.size := Nat.ne_of_lt (blk_lt z7)
              replace z7 := blk_alloc z7 zc
              have hb2 := below_alloc hb1 zc
              refine hK.out _ _ (two BN.out hb2) (fun _ => ?_)
              clear hK K
              refine norm_ (a' := ?_) ?_ ?_
              rotate_left
              · show Act.put _ (some 16) _ = _
                simp only [Act.put, setIfInBounds_toArray, set_cons_zero, set_cons_succ, i64_w, i32_w]
                rfl
              obtain ⟨U2, hU2⟩ : ∃ u_, U1.alloc zc = u_ := ⟨_, rfl⟩
              rw [hU2] at z6 hb2 z7 ⊢
              obtain ⟨p6, hp⟩ : ∃ p, U1.heap.size = p := ⟨_, rfl⟩
              rw [hp] at z6 g6 ne ⊢
              clear hU2 hp
              refine one_ (i := 5) (N := some 77) #[true, true, true, true, true, true, true, true, false, false] rfl rfl (one_of rfl (by kernel_rfl)) (by decide) (fun K hK => ?_)
              refine goes_ Tryz.func25 (by kernel_rfl) rfl #[.int .i64 y] (by rfl) rfl rfl (by (try simp only [map_toArray, map_cons, map_nil]); rfl) ?_
              refine (HIY.out _).mono ?_
              rintro e U3 ⟨rfl, hc⟩
              refine ⟨_, rfl, ?_⟩
              have hb3 := below_step hb2 hc
              replace z6 := blk_below z6 hc
              replace z7 := blk_below z7 hc
              refine hK.out _ _ (two BN.out hb3) (fun _ => ?_)
              clear hK K hc
              refine norm_ (a' := ?_) ?_ ?_
              rotate_left
              · show Act.put _ (some 77) _ = _
                simp only [Act.put, setIfInBounds_toArray, set_cons_zero, set_cons_succ, i64_w, i32_w]
                rfl
              exact hcont (p6, p7) _ ⟨z6, z7, (fun h => ne h.symm), ⟨g6, g7⟩, hb3⟩
        · refine value_ (v := .pointer (some ⟨V.heap.size, 0, none⟩)) (w1 := V.alloc zc) (by rfl) rfl (by go_simp) ?_
          have z6 := heap_alloc_new V zc
          have hb0 := below_alloc (Below.refl V.heap.size V) zc
          refine hK.out _ _ (two BN.out hb0) (fun _ => ?_)
          clear hK K
          refine norm_ (a' := ?_) ?_ ?_
          rotate_left
          · show Act.put _ (some 16) _ = _
            simp only [Act.put, setIfInBounds_toArray, set_cons_zero, set_cons_succ, i64_w, i32_w]
            rfl
          obtain ⟨U0, hU2⟩ : ∃ u_, V.alloc zc = u_ := ⟨_, rfl⟩
          rw [hU2] at z6 hb0 ⊢
          obtain ⟨p6, hp⟩ : ∃ p, V.heap.size = p := ⟨_, rfl⟩
          rw [hp] at z6   ⊢
          have g6 := Nat.le_of_eq hp
          clear hU2 hp
          refine two_ (i := 2) (j := 7) (Ni := some 74) (Nj := some 17) #[true, true, true, true, true, false, true, false, false, false] #[true, true, false, true, true, false, true, true, false, false] rfl rfl rfl rfl (two_of rfl (by kernel_rfl)) (by decide) (by decide) (fun K hK => ?_) (fun K hK => ?_)
          · refine goes_ Tryz.func25 (by kernel_rfl) rfl #[.int .i64 x] (by rfl) rfl rfl (by (try simp only [map_toArray, map_cons, map_nil]); rfl) ?_
            refine (HIX.out _).mono ?_
            rintro e U1 ⟨rfl, hc⟩
            refine ⟨_, rfl, ?_⟩
            have hb1 := below_step hb0 hc
            replace z6 := blk_below z6 hc
            refine hK.out _ _ (two BN.out hb1) (fun _ => ?_)
            clear hK K hc
            refine norm_ (a' := ?_) ?_ ?_
            rotate_left
            · show Act.put _ (some 74) _ = _
              simp only [Act.put, setIfInBounds_toArray, set_cons_zero, set_cons_succ, i64_w, i32_w]
              rfl
            refine two_ (i := 5) (j := 7) (Ni := some 77) (Nj := some 17) #[true, true, true, true, true, true, true, false, false, false] #[true, true, true, true, true, false, true, true, false, false] rfl rfl rfl rfl (two_of rfl (by kernel_rfl)) (by decide) (by decide) (fun K hK => ?_) (fun K hK => ?_)
            · refine goes_ Tryz.func25 (by kernel_rfl) rfl #[.int .i64 y] (by rfl) rfl rfl (by (try simp only [map_toArray, map_cons, map_nil]); rfl) ?_
              refine (HIY.out _).mono ?_
              rintro e U2 ⟨rfl, hc⟩
              refine ⟨_, rfl, ?_⟩
              have hb2 := below_step hb1 hc
              replace z6 := blk_below z6 hc
              refine hK.out _ _ (two BN.out hb2) (fun _ => ?_)
              clear hK K hc
              refine norm_ (a' := ?_) ?_ ?_
              rotate_left
              · show Act.put _ (some 77) _ = _
                simp only [Act.put, setIfInBounds_toArray, set_cons_zero, set_cons_succ, i64_w, i32_w]
                rfl
              refine one_ (i := 7) (N := some 17) #[true, true, true, true, true, true, true, true, false, false] rfl rfl (one_of rfl (by kernel_rfl)) (by decide) (fun K hK => ?_)
              refine value_ (v := .pointer (some ⟨U2.heap.size, 0, none⟩)) (w1 := U2.alloc zc) (by rfl) rfl (by go_simp) ?_
              have z7 := heap_alloc_new U2 zc
              have g7 := hb2.size
              have ne : p6 ≠ U2.heap.size := Nat.ne_of_lt (blk_lt z6)
              replace z6 := blk_alloc z6 zc
              have hb3 := below_alloc hb2 zc
              refine hK.out _ _ (two BN.out hb3) (fun _ => ?_)
              clear hK K
              refine norm_ (a' := ?_) ?_ ?_
              rotate_left
              · show Act.put _ (some 17) _ = _
                simp only [Act.put, setIfInBounds_toArray, set_cons_zero, set_cons_succ, i64_w, i32_w]
                rfl
              obtain ⟨U3, hU2⟩ : ∃ u_, U2.alloc zc = u_ := ⟨_, rfl⟩
              rw [hU2] at z7 hb3 z6 ⊢
              obtain ⟨p7, hp⟩ : ∃ p, U2.heap.size = p := ⟨_, rfl⟩
              rw [hp] at z7 g7 ne ⊢
              clear hU2 hp
              exact hcont (p6, p7) _ ⟨z6, z7, ne, ⟨g6, g7⟩, hb3⟩
            · refine value_ (v := .pointer (some ⟨U1.heap.size, 0, none⟩)) (w1 := U1.alloc zc) (by rfl) rfl (by go_simp) ?_
              have z7 := heap_alloc_new U1 zc
              have g7 := hb1.size
              have ne : p6 ≠ U1.heap.size := Nat.ne_of_lt (blk_lt z6)
              replace z6 := blk_alloc z6 zc
              have hb2 := below_alloc hb1 zc
              refine hK.out _ _ (two BN.out hb2) (fun _ => ?_)
              clear hK K
              refine norm_ (a' := ?_) ?_ ?_
              rotate_left
              · show Act.put _ (some 17) _ = _
                simp only [Act.put, setIfInBounds_toArray, set_cons_zero, set_cons_succ, i64_w, i32_w]
                rfl
              obtain ⟨U2, hU2⟩ : ∃ u_, U1.alloc zc = u_ := ⟨_, rfl⟩
              rw [hU2] at z7 hb2 z6 ⊢
              obtain ⟨p7, hp⟩ : ∃ p, U1.heap.size = p := ⟨_, rfl⟩
              rw [hp] at z7 g7 ne ⊢
              clear hU2 hp
              refine one_ (i := 5) (N := some 77) #[true, true, true, true, true, true, true, true, false, false] rfl rfl (one_of rfl (by kernel_rfl)) (by decide) (fun K hK => ?_)
              refine goes_ Tryz.func25 (by kernel_rfl) rfl #[.int .i64 y] (by rfl) rfl rfl (by (try simp only [map_toArray, map_cons, map_nil]); rfl) ?_
              refine (HIY.out _).mono ?_
              rintro e U3 ⟨rfl, hc⟩
              refine ⟨_, rfl, ?_⟩
              have hb3 := below_step hb2 hc
              replace z6 := blk_below z6 hc
              replace z7 := blk_below z7 hc
              refine hK.out _ _ (two BN.out hb3) (fun _ => ?_)
              clear hK K hc
              refine norm_ (a' := ?_) ?_ ?_
              rotate_left
              · show Act.put _ (some 77) _ = _
                simp only [Act.put, setIfInBounds_toArray, set_cons_zero, set_cons_succ, i64_w, i32_w]
                rfl
              exact hcont (p6, p7) _ ⟨z6, z7, ne, ⟨g6, g7⟩, hb3⟩
          · refine value_ (v := .pointer (some ⟨U0.heap.size, 0, none⟩)) (w1 := U0.alloc zc) (by rfl) rfl (by go_simp) ?_
            have z7 := heap_alloc_new U0 zc
            have g7 := hb0.size
            have ne : p6 ≠ U0.heap.size := Nat.ne_of_lt (blk_lt z6)
            replace z6 := blk_alloc z6 zc
            have hb1 := below_alloc hb0 zc
            refine hK.out _ _ (two BN.out hb1) (fun _ => ?_)
            clear hK K
            refine norm_ (a' := ?_) ?_ ?_
            rotate_left
            · show Act.put _ (some 17) _ = _
              simp only [Act.put, setIfInBounds_toArray, set_cons_zero, set_cons_succ, i64_w, i32_w]
              rfl
            obtain ⟨U1, hU2⟩ : ∃ u_, U0.alloc zc = u_ := ⟨_, rfl⟩
            rw [hU2] at z7 hb1 z6 ⊢
            obtain ⟨p7, hp⟩ : ∃ p, U0.heap.size = p := ⟨_, rfl⟩
            rw [hp] at z7 g7 ne ⊢
            clear hU2 hp
            refine one_ (i := 2) (N := some 74) #[true, true, true, true, true, false, true, true, false, false] rfl rfl (one_of rfl (by kernel_rfl)) (by decide) (fun K hK => ?_)
            refine goes_ Tryz.func25 (by kernel_rfl) rfl #[.int .i64 x] (by rfl) rfl rfl (by (try simp only [map_toArray, map_cons, map_nil]); rfl) ?_
            refine (HIX.out _).mono ?_
            rintro e U2 ⟨rfl, hc⟩
            refine ⟨_, rfl, ?_⟩
            have hb2 := below_step hb1 hc
            replace z6 := blk_below z6 hc
            replace z7 := blk_below z7 hc
            refine hK.out _ _ (two BN.out hb2) (fun _ => ?_)
            clear hK K hc
            refine norm_ (a' := ?_) ?_ ?_
            rotate_left
            · show Act.put _ (some 74) _ = _
              simp only [Act.put, setIfInBounds_toArray, set_cons_zero, set_cons_succ, i64_w, i32_w]
              rfl
            refine one_ (i := 5) (N := some 77) #[true, true, true, true, true, true, true, true, false, false] rfl rfl (one_of rfl (by kernel_rfl)) (by decide) (fun K hK => ?_)
            refine goes_ Tryz.func25 (by kernel_rfl) rfl #[.int .i64 y] (by rfl) rfl rfl (by (try simp only [map_toArray, map_cons, map_nil]); rfl) ?_
            refine (HIY.out _).mono ?_
            rintro e U3 ⟨rfl, hc⟩
            refine ⟨_, rfl, ?_⟩
            have hb3 := below_step hb2 hc
            replace z6 := blk_below z6 hc
            replace z7 := blk_below z7 hc
            refine hK.out _ _ (two BN.out hb3) (fun _ => ?_)
            clear hK K hc
            refine norm_ (a' := ?_) ?_ ?_
            rotate_left
            · show Act.put _ (some 77) _ = _
              simp only [Act.put, setIfInBounds_toArray, set_cons_zero, set_cons_succ, i64_w, i32_w]
              rfl
            exact hcont (p6, p7) _ ⟨z6, z7, ne, ⟨g6, g7⟩, hb3⟩
        · refine value_ (v := .pointer (some ⟨V.heap.size, 0, none⟩)) (w1 := V.alloc zc) (by rfl) rfl (by go_simp) ?_
          have z7 := heap_alloc_new V zc
          have hb0 := below_alloc (Below.refl V.heap.size V) zc
          refine hK.out _ _ (two BN.out hb0) (fun _ => ?_)
          clear hK K
          refine norm_ (a' := ?_) ?_ ?_
          rotate_left
          · show Act.put _ (some 17) _ = _
            simp only [Act.put, setIfInBounds_toArray, set_cons_zero, set_cons_succ, i64_w, i32_w]
            rfl
          obtain ⟨U0, hU2⟩ : ∃ u_, V.alloc zc = u_ := ⟨_, rfl⟩
          rw [hU2] at z7 hb0 ⊢
          obtain ⟨p7, hp⟩ : ∃ p, V.heap.size = p := ⟨_, rfl⟩
          rw [hp] at z7   ⊢
          have g7 := Nat.le_of_eq hp
          clear hU2 hp
          refine two_ (i := 2) (j := 6) (Ni := some 74) (Nj := some 16) #[true, true, true, true, true, false, false, true, false, false] #[true, true, false, true, true, false, true, true, false, false] rfl rfl rfl rfl (two_of rfl (by kernel_rfl)) (by decide) (by decide) (fun K hK => ?_) (fun K hK => ?_)
          · refine goes_ Tryz.func25 (by kernel_rfl) rfl #[.int .i64 x] (by rfl) rfl rfl (by (try simp only [map_toArray, map_cons, map_nil]); rfl) ?_
            refine (HIX.out _).mono ?_
            rintro e U1 ⟨rfl, hc⟩
            refine ⟨_, rfl, ?_⟩
            have hb1 := below_step hb0 hc
            replace z7 := blk_below z7 hc
            refine hK.out _ _ (two BN.out hb1) (fun _ => ?_)
            clear hK K hc
            refine norm_ (a' := ?_) ?_ ?_
            rotate_left
            · show Act.put _ (some 74) _ = _
              simp only [Act.put, setIfInBounds_toArray, set_cons_zero, set_cons_succ, i64_w, i32_w]
              rfl
            refine two_ (i := 5) (j := 6) (Ni := some 77) (Nj := some 16) #[true, true, true, true, true, true, false, true, false, false] #[true, true, true, true, true, false, true, true, false, false] rfl rfl rfl rfl (two_of rfl (by kernel_rfl)) (by decide) (by decide) (fun K hK => ?_) (fun K hK => ?_)
            · refine goes_ Tryz.func25 (by kernel_rfl) rfl #[.int .i64 y] (by rfl) rfl rfl (by (try simp only [map_toArray, map_cons, map_nil]); rfl) ?_
              refine (HIY.out _).mono ?_
              rintro e U2 ⟨rfl, hc⟩
              refine ⟨_, rfl, ?_⟩
              have hb2 := below_step hb1 hc
              replace z7 := blk_below z7 hc
              refine hK.out _ _ (two BN.out hb2) (fun _ => ?_)
              clear hK K hc
              refine norm_ (a' := ?_) ?_ ?_
              rotate_left
              · show Act.put _ (some 77) _ = _
                simp only [Act.put, setIfInBounds_toArray, set_cons_zero, set_cons_succ, i64_w, i32_w]
                rfl
              refine one_ (i := 6) (N := some 16) #[true, true, true, true, true, true, true, true, false, false] rfl rfl (one_of rfl (by kernel_rfl)) (by decide) (fun K hK => ?_)
              refine value_ (v := .pointer (some ⟨U2.heap.size, 0, none⟩)) (w1 := U2.alloc zc) (by rfl) rfl (by go_simp) ?_
              have z6 := heap_alloc_new U2 zc
              have g6 := hb2.size
              have ne : p7 ≠ U2.heap.size := Nat.ne_of_lt (blk_lt z7)
              replace z7 := blk_alloc z7 zc
              have hb3 := below_alloc hb2 zc
              refine hK.out _ _ (two BN.out hb3) (fun _ => ?_)
              clear hK K
              refine norm_ (a' := ?_) ?_ ?_
              rotate_left
              · show Act.put _ (some 16) _ = _
                simp only [Act.put, setIfInBounds_toArray, set_cons_zero, set_cons_succ, i64_w, i32_w]
                rfl
              obtain ⟨U3, hU2⟩ : ∃ u_, U2.alloc zc = u_ := ⟨_, rfl⟩
              rw [hU2] at z6 hb3 z7 ⊢
              obtain ⟨p6, hp⟩ : ∃ p, U2.heap.size = p := ⟨_, rfl⟩
              rw [hp] at z6 g6 ne ⊢
              clear hU2 hp
              exact hcont (p6, p7) _ ⟨z6, z7, (fun h => ne h.symm), ⟨g6, g7⟩, hb3⟩
            · refine value_ (v := .pointer (some ⟨U1.heap.size, 0, none⟩)) (w1 := U1.alloc zc) (by rfl) rfl (by go_simp) ?_
              have z6 := heap_alloc_new U1 zc
              have g6 := hb1.size
              have ne : p7 ≠ U1.heap.size := Nat.ne_of_lt (blk_lt z7)
              replace z7 := blk_alloc z7 zc
              have hb2 := below_alloc hb1 zc
              refine hK.out _ _ (two BN.out hb2) (fun _ => ?_)
              clear hK K
              refine norm_ (a' := ?_) ?_ ?_
              rotate_left
              · show Act.put _ (some 16) _ = _
                simp only [Act.put, setIfInBounds_toArray, set_cons_zero, set_cons_succ, i64_w, i32_w]
                rfl
              obtain ⟨U2, hU2⟩ : ∃ u_, U1.alloc zc = u_ := ⟨_, rfl⟩
              rw [hU2] at z6 hb2 z7 ⊢
              obtain ⟨p6, hp⟩ : ∃ p, U1.heap.size = p := ⟨_, rfl⟩
              rw [hp] at z6 g6 ne ⊢
              clear hU2 hp
              refine one_ (i := 5) (N := some 77) #[true, true, true, true, true, true, true, true, false, false] rfl rfl (one_of rfl (by kernel_rfl)) (by decide) (fun K hK => ?_)
              refine goes_ Tryz.func25 (by kernel_rfl) rfl #[.int .i64 y] (by rfl) rfl rfl (by (try simp only [map_toArray, map_cons, map_nil]); rfl) ?_
              refine (HIY.out _).mono ?_
              rintro e U3 ⟨rfl, hc⟩
              refine ⟨_, rfl, ?_⟩
              have hb3 := below_step hb2 hc
              replace z6 := blk_below z6 hc
              replace z7 := blk_below z7 hc
              refine hK.out _ _ (two BN.out hb3) (fun _ => ?_)
              clear hK K hc
              refine norm_ (a' := ?_) ?_ ?_
              rotate_left
              · show Act.put _ (some 77) _ = _
                simp only [Act.put, setIfInBounds_toArray, set_cons_zero, set_cons_succ, i64_w, i32_w]
                rfl
              exact hcont (p6, p7) _ ⟨z6, z7, (fun h => ne h.symm), ⟨g6, g7⟩, hb3⟩
          · refine value_ (v := .pointer (some ⟨U0.heap.size, 0, none⟩)) (w1 := U0.alloc zc) (by rfl) rfl (by go_simp) ?_
            have z6 := heap_alloc_new U0 zc
            have g6 := hb0.size
            have ne : p7 ≠ U0.heap.size := Nat.ne_of_lt (blk_lt z7)
            replace z7 := blk_alloc z7 zc
            have hb1 := below_alloc hb0 zc
            refine hK.out _ _ (two BN.out hb1) (fun _ => ?_)
            clear hK K
            refine norm_ (a' := ?_) ?_ ?_
            rotate_left
            · show Act.put _ (some 16) _ = _
              simp only [Act.put, setIfInBounds_toArray, set_cons_zero, set_cons_succ, i64_w, i32_w]
              rfl
            obtain ⟨U1, hU2⟩ : ∃ u_, U0.alloc zc = u_ := ⟨_, rfl⟩
            rw [hU2] at z6 hb1 z7 ⊢
            obtain ⟨p6, hp⟩ : ∃ p, U0.heap.size = p := ⟨_, rfl⟩
            rw [hp] at z6 g6 ne ⊢
            clear hU2 hp
            refine one_ (i := 2) (N := some 74) #[true, true, true, true, true, false, true, true, false, false] rfl rfl (one_of rfl (by kernel_rfl)) (by decide) (fun K hK => ?_)
            refine goes_ Tryz.func25 (by kernel_rfl) rfl #[.int .i64 x] (by rfl) rfl rfl (by (try simp only [map_toArray, map_cons, map_nil]); rfl) ?_
            refine (HIX.out _).mono ?_
            rintro e U2 ⟨rfl, hc⟩
            refine ⟨_, rfl, ?_⟩
            have hb2 := below_step hb1 hc
            replace z6 := blk_below z6 hc
            replace z7 := blk_below z7 hc
            refine hK.out _ _ (two BN.out hb2) (fun _ => ?_)
            clear hK K hc
            refine norm_ (a' := ?_) ?_ ?_
            rotate_left
            · show Act.put _ (some 74) _ = _
              simp only [Act.put, setIfInBounds_toArray, set_cons_zero, set_cons_succ, i64_w, i32_w]
              rfl
            refine one_ (i := 5) (N := some 77) #[true, true, true, true, true, true, true, true, false, false] rfl rfl (one_of rfl (by kernel_rfl)) (by decide) (fun K hK => ?_)
            refine goes_ Tryz.func25 (by kernel_rfl) rfl #[.int .i64 y] (by rfl) rfl rfl (by (try simp only [map_toArray, map_cons, map_nil]); rfl) ?_
            refine (HIY.out _).mono ?_
            rintro e U3 ⟨rfl, hc⟩
            refine ⟨_, rfl, ?_⟩
            have hb3 := below_step hb2 hc
            replace z6 := blk_below z6 hc
            replace z7 := blk_below z7 hc
            refine hK.out _ _ (two BN.out hb3) (fun _ => ?_)
            clear hK K hc
            refine norm_ (a' := ?_) ?_ ?_
            rotate_left
            · show Act.put _ (some 77) _ = _
              simp only [Act.put, setIfInBounds_toArray, set_cons_zero, set_cons_succ, i64_w, i32_w]
              rfl
            exact hcont (p6, p7) _ ⟨z6, z7, (fun h => ne h.symm), ⟨g6, g7⟩, hb3⟩
      rintro ⟨p, q⟩ U ⟨z0, z1, ne, ⟨g0, g1⟩, hbU⟩
      refine norm_ (a' := ?_) ?_ ?_
      rotate_left
      · simp only [putAll, Act.put, setIfInBounds_toArray, set_cons_zero, set_cons_succ]
        rfl
      obtain ⟨c0, c1, f0, f1, c2, f2⟩ := put_facts z0 (.int .u64 X)
      obtain ⟨y_p, yy⟩ := put_cell z0 (.int .u64 X) (.string (⟨#[]⟩ : ByteArray))
      refine one_ (i := 8) (N := none) #[true, true, true, true, true, true, true, true, true, false] rfl rfl (one_of rfl (by kernel_rfl)) (by decide) (fun K hK => ?_)
      refine skip_ (w1 := (U.setCell ⟨p, 0, none⟩ (.int .u64 X)).setCell ⟨p, 1, none⟩ (.string (⟨#[]⟩ : ByteArray))) (by rfl) rfl (by go_simp) ?_
      have hbV0 := below_set (j := 1) (v := .string (⟨#[]⟩ : ByteArray)) (below_set (j := 0) (v := .int .u64 X) hbU g0) g0
      have a1 := (yy _ (fun h => ne h.symm)).trans z1
      refine hK.out _ _ (two BN.out hbV0) (fun hS => ?_)
      clear hS hK K c0 c1 f0 f1 c2 f2 yy z0 hbU z1
      obtain ⟨V0, hV⟩ : ∃ V, (U.setCell ⟨p, 0, none⟩ (.int .u64 X)).setCell ⟨p, 1, none⟩ (.string (⟨#[]⟩ : ByteArray)) = V := ⟨_, rfl⟩
      rw [hV] at y_p hbV0 a1 ⊢
      clear hV U
      obtain ⟨c0, c1, f0, f1, c2, f2⟩ := put_facts a1 (.int .u64 Y)
      obtain ⟨y_q, yy⟩ := put_cell a1 (.int .u64 Y) (.string (⟨#[]⟩ : ByteArray))
      refine one_ (i := 9) (N := none) #[true, true, true, true, true, true, true, true, true, true] rfl rfl (one_of rfl (by kernel_rfl)) (by decide) (fun K hK => ?_)
      refine skip_ (w1 := (V0.setCell ⟨q, 0, none⟩ (.int .u64 Y)).setCell ⟨q, 1, none⟩ (.string (⟨#[]⟩ : ByteArray))) (by rfl) rfl (by go_simp) ?_
      have hbV1 := below_set (j := 1) (v := .string (⟨#[]⟩ : ByteArray)) (below_set (j := 0) (v := .int .u64 Y) hbV0 g1) g1
      have b0 := (yy _ ne).trans y_p
      refine hK.out _ _ (two BN.out hbV1) (fun hS => ?_)
      clear hS hK K c0 c1 f0 f1 c2 f2 yy a1 hbV0 y_p
      obtain ⟨V1, hV⟩ : ∃ V, (V0.setCell ⟨q, 0, none⟩ (.int .u64 Y)).setCell ⟨q, 1, none⟩ (.string (⟨#[]⟩ : ByteArray)) = V := ⟨_, rfl⟩
      rw [hV] at y_q hbV1 b0 ⊢
      clear hV V0
      refine done_ (done_of rfl (by kernel_rfl)) ?_
      have BP := Aside0.mk b0
      have BQ := Aside0.mk y_q
      replace HB := Aside0.mk (below_step HB.out hbV1)
      replace BN := Aside0.mk ((hbV1.block _ (blk_lt BN.out)).trans BN.out)
      clear b0 y_q hbV1 ne g0 g1 hHeld V HIX HIY
      go_wp2_with fail
      replace BP := Aside0.mk (show V1.drew.heap[p]? = some (.cells #[.int .u64 X, .string ⟨#[]⟩] 24 (0, 0)) from BP.out)
      replace BQ := Aside0.mk (show V1.drew.heap[q]? = some (.cells #[.int .u64 Y, .string ⟨#[]⟩] 24 (0, 0)) from BQ.out)
      replace BN := Aside0.mk (show V1.drew.heap[w.heap.size + 1]? = some (.cells #[.int .i64 x, .int .i64 y] 36 (0, 0)) from BN.out)
      replace HB := Aside0.mk (below_drew1 HB.out)
      obtain ⟨e1, e2⟩ := E12.out
      refine start_ (n := 40) (S := fun w' => (w'.cell? ⟨p, 0, none⟩ = some (.int .u64 X) ∧ w'.cell? ⟨p, 1, none⟩ = some (.string ⟨#[]⟩)) ∧ (w'.cell? ⟨q, 0, none⟩ = some (.int .u64 Y) ∧ w'.cell? ⟨q, 1, none⟩ = some (.string ⟨#[]⟩)) ∧ Two (w.heap.size + 1) x y w') (ds := []) #[false, false, false, false, false, false, false, false, false, false, false, false, false, false, false, false, false, false, false, false, false, false, false, false, false, false, false, false, false, false, false, false, false, false, false, false, false, false, false, false] (by kernel_rfl) rfl rfl (s3 BP.out BQ.out BN.out (Below.refl _ _)) (fun hHeld => ?_)
      generalize V1.drew = T0 at *
      clear V1
      refine one_ (i := 0) (N := some 78) #[true, false, false, false, false, false, false, false, false, false, false, false, false, false, false, false, false, false, false, false, false, false, false, false, false, false, false, false, false, false, false, false, false, false, false, false, false, false, false, false] rfl rfl (one_of rfl (by kernel_rfl)) (by decide) (fun K hK => ?_)
      refine goes_ Tryz.func18 (by kernel_rfl) rfl #[] (by rfl) rfl rfl (by first | rfl | (simp only [map_toArray, map_nil]; done) | ((try simp only [map_toArray, map_cons, map_nil]); rfl)) ?_
      refine (HAL.out _ (below_step HB.out (Below.refl _ _))).mono ?_
      rintro e w2 ⟨rfl, hb⟩
      refine ⟨_, rfl, ?_⟩
      have m1 := below_step (Below.refl _ _) hb
      refine hK.out _ _ (s3 BP.out BQ.out BN.out m1) (fun hHeld => ?_)
      clear hK K
      refine norm_ (a' := ?_) ?_ ?_
      rotate_left
      · show Act.put _ (some 78) _ = _
        simp only [Act.put, setIfInBounds_toArray, set_cons_zero, set_cons_succ, i64_w, i32_w]
        rfl
      clear hb
      refine pure_ (i := 1) (N := some 79) (v := ?_) (a' := ?_) #[true, true, false, false, false, false, false, false, false, false, false, false, false, false, false, false, false, false, false, false, false, false, false, false, false, false, false, false, false, false, false, false, false, false, false, false, false, false, false, false] rfl rfl (any_of rfl (by kernel_rfl)) (fun _ _ _ h => h) (Or.inl ⟨by rfl, ?_⟩) ?_ ?_
      rotate_left
      · intro w'
        go_simp
        with_reducible rfl
      rotate_left
      · simp only [Act.put, setIfInBounds_toArray, set_cons_zero, set_cons_succ, i64_w, i32_w]
        rfl
      refine take_ (i := 2) (N := some 80) (v := ?_) (a' := ?_) #[true, true, true, false, false, false, false, false, false, false, false, false, false, false, false, false, false, false, false, false, false, false, false, false, false, false, false, false, false, false, false, false, false, false, false, false, false, false, false, false] rfl rfl (take_of rfl (by kernel_rfl)) (fun _ _ _ h => h) (Or.inl ⟨by rfl, ?_⟩) hHeld ?_ ?_
      rotate_left
      · rintro w' ⟨⟨q0, q1⟩, ⟨q2, q3⟩, q4, q5⟩
        go_simp
        with_reducible rfl
      rotate_left
      · simp only [Act.put, setIfInBounds_toArray, set_cons_zero, set_cons_succ, i64_w, i32_w]
        rfl
      refine take_ (i := 4) (N := some 82) (v := ?_) (a' := ?_) #[true, true, true, false, true, false, false, false, false, false, false, false, false, false, false, false, false, false, false, false, false, false, false, false, false, false, false, false, false, false, false, false, false, false, false, false, false, false, false, false] rfl rfl (take_of rfl (by kernel_rfl)) (fun _ _ _ h => h) (Or.inl ⟨by rfl, ?_⟩) hHeld ?_ ?_
      rotate_left
      · rintro w' ⟨⟨q0, q1⟩, ⟨q2, q3⟩, q4, q5⟩
        go_simp
        with_reducible rfl
      rotate_left
      · simp only [Act.put, setIfInBounds_toArray, set_cons_zero, set_cons_succ, i64_w, i32_w]
        rfl
      refine take_ (i := 5) (N := some 83) (v := ?_) (a' := ?_) #[true, true, true, false, true, true, false, false, false, false, false, false, false, false, false, false, false, false, false, false, false, false, false, false, false, false, false, false, false, false, false, false, false, false, false, false, false, false, false, false] rfl rfl (take_of rfl (by kernel_rfl)) (fun _ _ _ h => h) (Or.inl ⟨by rfl, ?_⟩) hHeld ?_ ?_
      rotate_left
      · rintro w' ⟨⟨q0, q1⟩, ⟨q2, q3⟩, q4, q5⟩
        go_simp
        with_reducible rfl
      rotate_left
      · simp only [Act.put, setIfInBounds_toArray, set_cons_zero, set_cons_succ, i64_w, i32_w]
        rfl
      refine one_ (i := 3) (N := some 81) #[true, true, true, true, true, true, false, false, false, false, false, false, false, false, false, false, false, false, false, false, false, false, false, false, false, false, false, false, false, false, false, false, false, false, false, false, false, false, false, false] rfl rfl (one_of rfl (by kernel_rfl)) (by decide) (fun K hK => ?_)
      refine goes_ Tryz.func26 (by kernel_rfl) rfl #[.agg #[.int .u64 X, .string ⟨#[]⟩]] (by rfl) rfl rfl (by first | rfl | (simp only [map_toArray, map_nil]; done) | ((try simp only [map_toArray, map_cons, map_nil]); rfl)) ?_
      refine (HSX.out _).mono ?_
      rintro e w2 ⟨rfl, hb⟩
      refine ⟨_, rfl, ?_⟩
      have m2 := below_step m1 hb
      refine hK.out _ _ (s3 BP.out BQ.out BN.out m2) (fun hHeld => ?_)
      clear hK K
      refine norm_ (a' := ?_) ?_ ?_
      rotate_left
      · show Act.put _ (some 81) _ = _
        simp only [Act.put, setIfInBounds_toArray, set_cons_zero, set_cons_succ, i64_w, i32_w]
        rfl
      clear hb m1
      refine pure_ (i := 6) (N := some 84) (v := ?_) (a' := ?_) #[true, true, true, true, true, true, true, false, false, false, false, false, false, false, false, false, false, false, false, false, false, false, false, false, false, false, false, false, false, false, false, false, false, false, false, false, false, false, false, false] rfl rfl (any_of rfl (by kernel_rfl)) (fun _ _ _ h => h) (Or.inl ⟨by rfl, ?_⟩) ?_ ?_
      rotate_left
      · intro w'
        go_simp
        with_reducible rfl
      rotate_left
      · simp only [Act.put, setIfInBounds_toArray, set_cons_zero, set_cons_succ, i64_w, i32_w]
        rfl
      refine pure_ (i := 7) (N := some 85) (v := ?_) (a' := ?_) #[true, true, true, true, true, true, true, true, false, false, false, false, false, false, false, false, false, false, false, false, false, false, false, false, false, false, false, false, false, false, false, false, false, false, false, false, false, false, false, false] rfl rfl (any_of rfl (by kernel_rfl)) (fun _ _ _ h => h) (Or.inl ⟨by rfl, ?_⟩) ?_ ?_
      rotate_left
      · intro w'
        go_simp
        with_reducible rfl
      rotate_left
      · simp only [Act.put, setIfInBounds_toArray, set_cons_zero, set_cons_succ, i64_w, i32_w]
        rfl
      refine pure_ (i := 8) (N := some 86) (v := ?_) (a' := ?_) #[true, true, true, true, true, true, true, true, true, false, false, false, false, false, false, false, false, false, false, false, false, false, false, false, false, false, false, false, false, false, false, false, false, false, false, false, false, false, false, false] rfl rfl (any_of rfl (by kernel_rfl)) (fun _ _ _ h => h) (Or.inl ⟨by rfl, ?_⟩) ?_ ?_
      rotate_left
      · intro w'
        go_simp
        with_reducible rfl
      rotate_left
      · simp only [Act.put, setIfInBounds_toArray, set_cons_zero, set_cons_succ, i64_w, i32_w]
        rfl
      refine take_ (i := 9) (N := some 87) (v := ?_) (a' := ?_) #[true, true, true, true, true, true, true, true, true, true, false, false, false, false, false, false, false, false, false, false, false, false, false, false, false, false, false, false, false, false, false, false, false, false, false, false, false, false, false, false] rfl rfl (take_of rfl (by kernel_rfl)) (fun _ _ _ h => h) (Or.inl ⟨by rfl, ?_⟩) hHeld ?_ ?_
      rotate_left
      · rintro w' ⟨⟨q0, q1⟩, ⟨q2, q3⟩, q4, q5⟩
        go_simp
        with_reducible rfl
      rotate_left
      · simp only [Act.put, setIfInBounds_toArray, set_cons_zero, set_cons_succ, i64_w, i32_w]
        rfl
      refine take_ (i := 11) (N := some 89) (v := ?_) (a' := ?_) #[true, true, true, true, true, true, true, true, true, true, false, true, false, false, false, false, false, false, false, false, false, false, false, false, false, false, false, false, false, false, false, false, false, false, false, false, false, false, false, false] rfl rfl (take_of rfl (by kernel_rfl)) (fun _ _ _ h => h) (Or.inl ⟨by rfl, ?_⟩) hHeld ?_ ?_
      rotate_left
      · rintro w' ⟨⟨q0, q1⟩, ⟨q2, q3⟩, q4, q5⟩
        go_simp
        with_reducible rfl
      rotate_left
      · simp only [Act.put, setIfInBounds_toArray, set_cons_zero, set_cons_succ, i64_w, i32_w]
        rfl
      refine take_ (i := 12) (N := some 90) (v := ?_) (a' := ?_) #[true, true, true, true, true, true, true, true, true, true, false, true, true, false, false, false, false, false, false, false, false, false, false, false, false, false, false, false, false, false, false, false, false, false, false, false, false, false, false, false] rfl rfl (take_of rfl (by kernel_rfl)) (fun _ _ _ h => h) (Or.inl ⟨by rfl, ?_⟩) hHeld ?_ ?_
      rotate_left
      · rintro w' ⟨⟨q0, q1⟩, ⟨q2, q3⟩, q4, q5⟩
        go_simp
        with_reducible rfl
      rotate_left
      · simp only [Act.put, setIfInBounds_toArray, set_cons_zero, set_cons_succ, i64_w, i32_w]
        rfl
      refine one_ (i := 10) (N := some 88) #[true, true, true, true, true, true, true, true, true, true, true, true, true, false, false, false, false, false, false, false, false, false, false, false, false, false, false, false, false, false, false, false, false, false, false, false, false, false, false, false] rfl rfl (one_of rfl (by kernel_rfl)) (by decide) (fun K hK => ?_)
      refine goes_ Tryz.func26 (by kernel_rfl) rfl #[.agg #[.int .u64 Y, .string ⟨#[]⟩]] (by rfl) rfl rfl (by first | rfl | (simp only [map_toArray, map_nil]; done) | ((try simp only [map_toArray, map_cons, map_nil]); rfl)) ?_
      refine (HSY.out _).mono ?_
      rintro e w2 ⟨rfl, hb⟩
      refine ⟨_, rfl, ?_⟩
      have m3 := below_step m2 hb
      refine hK.out _ _ (s3 BP.out BQ.out BN.out m3) (fun hHeld => ?_)
      clear hK K
      refine norm_ (a' := ?_) ?_ ?_
      rotate_left
      · show Act.put _ (some 88) _ = _
        simp only [Act.put, setIfInBounds_toArray, set_cons_zero, set_cons_succ, i64_w, i32_w]
        rfl
      clear hb m2
      refine pure_ (i := 13) (N := some 91) (v := ?_) (a' := ?_) #[true, true, true, true, true, true, true, true, true, true, true, true, true, true, false, false, false, false, false, false, false, false, false, false, false, false, false, false, false, false, false, false, false, false, false, false, false, false, false, false] rfl rfl (any_of rfl (by kernel_rfl)) (fun _ _ _ h => h) (Or.inl ⟨by rfl, ?_⟩) ?_ ?_
      rotate_left
      · intro w'
        go_simp
        with_reducible rfl
      rotate_left
      · simp only [Act.put, setIfInBounds_toArray, set_cons_zero, set_cons_succ, i64_w, i32_w]
        rfl
      refine pure_ (i := 14) (N := some 92) (v := ?_) (a' := ?_) #[true, true, true, true, true, true, true, true, true, true, true, true, true, true, true, false, false, false, false, false, false, false, false, false, false, false, false, false, false, false, false, false, false, false, false, false, false, false, false, false] rfl rfl (any_of rfl (by kernel_rfl)) (fun _ _ _ h => h) (Or.inl ⟨by rfl, ?_⟩) ?_ ?_
      rotate_left
      · intro w'
        go_simp
        with_reducible rfl
      rotate_left
      · simp only [Act.put, setIfInBounds_toArray, set_cons_zero, set_cons_succ, i64_w, i32_w]
        rfl
      refine pure_ (i := 15) (N := some 93) (v := ?_) (a' := ?_) #[true, true, true, true, true, true, true, true, true, true, true, true, true, true, true, true, false, false, false, false, false, false, false, false, false, false, false, false, false, false, false, false, false, false, false, false, false, false, false, false] rfl rfl (any_of rfl (by kernel_rfl)) (fun _ _ _ h => h) (Or.inl ⟨by rfl, ?_⟩) ?_ ?_
      rotate_left
      · intro w'
        go_simp
        with_reducible rfl
      rotate_left
      · simp only [Act.put, setIfInBounds_toArray, set_cons_zero, set_cons_succ, i64_w, i32_w]
        rfl
      refine take_ (i := 16) (N := some 94) (v := ?_) (a' := ?_) #[true, true, true, true, true, true, true, true, true, true, true, true, true, true, true, true, true, false, false, false, false, false, false, false, false, false, false, false, false, false, false, false, false, false, false, false, false, false, false, false] rfl rfl (take_of rfl (by kernel_rfl)) (fun _ _ _ h => h) (Or.inl ⟨by rfl, ?_⟩) hHeld ?_ ?_
      rotate_left
      · rintro w' ⟨⟨q0, q1⟩, ⟨q2, q3⟩, q4, q5⟩
        go_simp
        with_reducible rfl
      rotate_left
      · simp only [Act.put, setIfInBounds_toArray, set_cons_zero, set_cons_succ, i64_w, i32_w]
        rfl
      refine take_ (i := 17) (N := some 95) (v := ?_) (a' := ?_) #[true, true, true, true, true, true, true, true, true, true, true, true, true, true, true, true, true, true, false, false, false, false, false, false, false, false, false, false, false, false, false, false, false, false, false, false, false, false, false, false] rfl rfl (take_of rfl (by kernel_rfl)) (fun _ _ _ h => h) (Or.inl ⟨by rfl, ?_⟩) hHeld ?_ ?_
      rotate_left
      · rintro w' ⟨⟨q0, q1⟩, ⟨q2, q3⟩, q4, q5⟩
        go_simp
        with_reducible rfl
      rotate_left
      · simp only [Act.put, setIfInBounds_toArray, set_cons_zero, set_cons_succ, i64_w, i32_w]
        rfl
      refine take_ (i := 20) (N := some 98) (v := ?_) (a' := ?_) #[true, true, true, true, true, true, true, true, true, true, true, true, true, true, true, true, true, true, false, false, true, false, false, false, false, false, false, false, false, false, false, false, false, false, false, false, false, false, false, false] rfl rfl (take_of rfl (by kernel_rfl)) (fun _ _ _ h => h) (Or.inl ⟨by rfl, ?_⟩) hHeld ?_ ?_
      rotate_left
      · rintro w' ⟨⟨q0, q1⟩, ⟨q2, q3⟩, q4, q5⟩
        go_simp
        with_reducible rfl
      rotate_left
      · simp only [Act.put, setIfInBounds_toArray, set_cons_zero, set_cons_succ, i64_w, i32_w]
        rfl
      refine take_ (i := 21) (N := some 99) (v := ?_) (a' := ?_) #[true, true, true, true, true, true, true, true, true, true, true, true, true, true, true, true, true, true, false, false, true, true, false, false, false, false, false, false, false, false, false, false, false, false, false, false, false, false, false, false] rfl rfl (take_of rfl (by kernel_rfl)) (fun _ _ _ h => h) (Or.inl ⟨by rfl, ?_⟩) hHeld ?_ ?_
      rotate_left
      · rintro w' ⟨⟨q0, q1⟩, ⟨q2, q3⟩, q4, q5⟩
        go_simp
        with_reducible rfl
      rotate_left
      · simp only [Act.put, setIfInBounds_toArray, set_cons_zero, set_cons_succ, i64_w, i32_w]
        rfl
      refine take_ (i := 22) (N := some 100) (v := ?_) (a' := ?_) #[true, true, true, true, true, true, true, true, true, true, true, true, true, true, true, true, true, true, false, false, true, true, true, false, false, false, false, false, false, false, false, false, false, false, false, false, false, false, false, false] rfl rfl (take_of rfl (by kernel_rfl)) (fun _ _ _ h => h) (Or.inl ⟨by rfl, ?_⟩) hHeld ?_ ?_
      rotate_left
      · rintro w' ⟨⟨q0, q1⟩, ⟨q2, q3⟩, q4, q5⟩
        go_simp
        with_reducible rfl
      rotate_left
      · simp only [Act.put, setIfInBounds_toArray, set_cons_zero, set_cons_succ, i64_w, i32_w]
        rfl
      refine take_ (i := 23) (N := some 101) (v := ?_) (a' := ?_) #[true, true, true, true, true, true, true, true, true, true, true, true, true, true, true, true, true, true, false, false, true, true, true, true, false, false, false, false, false, false, false, false, false, false, false, false, false, false, false, false] rfl rfl (take_of rfl (by kernel_rfl)) (fun _ _ _ h => h) (Or.inl ⟨by rfl, ?_⟩) hHeld ?_ ?_
      rotate_left
      · rintro w' ⟨⟨q0, q1⟩, ⟨q2, q3⟩, q4, q5⟩
        go_simp
        with_reducible rfl
      rotate_left
      · simp only [Act.put, setIfInBounds_toArray, set_cons_zero, set_cons_succ, i64_w, i32_w]
        rfl
      refine pure_ (i := 24) (N := some 102) (v := ?_) (a' := ?_) #[true, true, true, true, true, true, true, true, true, true, true, true, true, true, true, true, true, true, false, false, true, true, true, true, true, false, false, false, false, false, false, false, false, false, false, false, false, false, false, false] rfl rfl (any_of rfl (by kernel_rfl)) (fun _ _ _ h => h) (Or.inl ⟨by rfl, ?_⟩) ?_ ?_
      rotate_left
      · intro w'
        go_simp
        with_reducible rfl
      rotate_left
      · simp only [Act.put, setIfInBounds_toArray, set_cons_zero, set_cons_succ, i64_w, i32_w]
        rfl
      refine one_ (i := 18) (N := some 96) #[true, true, true, true, true, true, true, true, true, true, true, true, true, true, true, true, true, true, true, false, true, true, true, true, true, false, false, false, false, false, false, false, false, false, false, false, false, false, false, false] rfl rfl (one_of rfl (by kernel_rfl)) (by decide) (fun K hK => ?_)
      refine goes_ Tryz.func27 (by kernel_rfl) rfl #[.int .i64 0, .agg #[.int .u64 X, .string ⟨#[]⟩], .agg #[.int .u64 Y, .string ⟨#[]⟩]] (by rfl) rfl rfl (by first | rfl | (simp only [map_toArray, map_nil]; done) | ((try simp only [map_toArray, map_cons, map_nil]); rfl)) ?_
      refine (H0.out _ (below_step HB.out m3)).mono ?_
      rintro e w2 ⟨rfl, hb⟩
      refine ⟨_, rfl, ?_⟩
      have m4 := below_step m3 hb
      refine hK.out _ _ (s3 BP.out BQ.out BN.out m4) (fun hHeld => ?_)
      clear hK K
      refine norm_ (a' := ?_) ?_ ?_
      rotate_left
      · show Act.put _ (some 96) _ = _
        simp only [Act.put, setIfInBounds_toArray, set_cons_zero, set_cons_succ, i64_w, i32_w]
        rfl
      clear hb m3
      refine pure_ (i := 19) (N := some 97) (v := ?_) (a' := ?_) #[true, true, true, true, true, true, true, true, true, true, true, true, true, true, true, true, true, true, true, true, true, true, true, true, true, false, false, false, false, false, false, false, false, false, false, false, false, false, false, false] rfl rfl (any_of rfl (by kernel_rfl)) (fun _ _ _ h => h) (Or.inl ⟨by rfl, ?_⟩) ?_ ?_
      rotate_left
      · intro w'
        go_simp
        with_reducible rfl
      rotate_left
      · simp only [Act.put, setIfInBounds_toArray, set_cons_zero, set_cons_succ, i64_w, i32_w]
        rfl
      refine pure_ (i := 25) (N := some 103) (v := ?_) (a' := ?_) #[true, true, true, true, true, true, true, true, true, true, true, true, true, true, true, true, true, true, true, true, true, true, true, true, true, true, false, false, false, false, false, false, false, false, false, false, false, false, false, false] rfl rfl (any_of rfl (by kernel_rfl)) (fun _ _ _ h => h) (Or.inl ⟨by rfl, ?_⟩) ?_ ?_
      rotate_left
      · intro w'
        go_simp
        with_reducible rfl
      rotate_left
      · simp only [Act.put, setIfInBounds_toArray, set_cons_zero, set_cons_succ, i64_w, i32_w]
        rfl
      refine pure_ (i := 26) (N := some 104) (v := ?_) (a' := ?_) #[true, true, true, true, true, true, true, true, true, true, true, true, true, true, true, true, true, true, true, true, true, true, true, true, true, true, true, false, false, false, false, false, false, false, false, false, false, false, false, false] rfl rfl (any_of rfl (by kernel_rfl)) (fun _ _ _ h => h) (Or.inl ⟨by rfl, ?_⟩) ?_ ?_
      rotate_left
      · intro w'
        go_simp
        with_reducible rfl
      rotate_left
      · simp only [Act.put, setIfInBounds_toArray, set_cons_zero, set_cons_succ, i64_w, i32_w]
        rfl
      refine pure_ (i := 27) (N := some 105) (v := ?_) (a' := ?_) #[true, true, true, true, true, true, true, true, true, true, true, true, true, true, true, true, true, true, true, true, true, true, true, true, true, true, true, true, false, false, false, false, false, false, false, false, false, false, false, false] rfl rfl (any_of rfl (by kernel_rfl)) (fun _ _ _ h => h) (Or.inl ⟨by rfl, ?_⟩) ?_ ?_
      rotate_left
      · intro w'
        go_simp
        with_reducible rfl
      rotate_left
      · simp only [Act.put, setIfInBounds_toArray, set_cons_zero, set_cons_succ, i64_w, i32_w]
        rfl
      refine take_ (i := 28) (N := some 106) (v := ?_) (a' := ?_) #[true, true, true, true, true, true, true, true, true, true, true, true, true, true, true, true, true, true, true, true, true, true, true, true, true, true, true, true, true, false, false, false, false, false, false, false, false, false, false, false] rfl rfl (take_of rfl (by kernel_rfl)) (fun _ _ _ h => h) (Or.inl ⟨by rfl, ?_⟩) hHeld ?_ ?_
      rotate_left
      · rintro w' ⟨⟨q0, q1⟩, ⟨q2, q3⟩, q4, q5⟩
        go_simp
        with_reducible rfl
      rotate_left
      · simp only [Act.put, setIfInBounds_toArray, set_cons_zero, set_cons_succ, i64_w, i32_w]
        rfl
      refine take_ (i := 29) (N := some 107) (v := ?_) (a' := ?_) #[true, true, true, true, true, true, true, true, true, true, true, true, true, true, true, true, true, true, true, true, true, true, true, true, true, true, true, true, true, true, false, false, false, false, false, false, false, false, false, false] rfl rfl (take_of rfl (by kernel_rfl)) (fun _ _ _ h => h) (Or.inl ⟨by rfl, ?_⟩) hHeld ?_ ?_
      rotate_left
      · rintro w' ⟨⟨q0, q1⟩, ⟨q2, q3⟩, q4, q5⟩
        go_simp
        with_reducible rfl
      rotate_left
      · simp only [Act.put, setIfInBounds_toArray, set_cons_zero, set_cons_succ, i64_w, i32_w]
        rfl
      refine take_ (i := 32) (N := some 110) (v := ?_) (a' := ?_) #[true, true, true, true, true, true, true, true, true, true, true, true, true, true, true, true, true, true, true, true, true, true, true, true, true, true, true, true, true, true, false, false, true, false, false, false, false, false, false, false] rfl rfl (take_of rfl (by kernel_rfl)) (fun _ _ _ h => h) (Or.inl ⟨by rfl, ?_⟩) hHeld ?_ ?_
      rotate_left
      · rintro w' ⟨⟨q0, q1⟩, ⟨q2, q3⟩, q4, q5⟩
        go_simp
        with_reducible rfl
      rotate_left
      · simp only [Act.put, setIfInBounds_toArray, set_cons_zero, set_cons_succ, i64_w, i32_w]
        rfl
      refine take_ (i := 33) (N := some 111) (v := ?_) (a' := ?_) #[true, true, true, true, true, true, true, true, true, true, true, true, true, true, true, true, true, true, true, true, true, true, true, true, true, true, true, true, true, true, false, false, true, true, false, false, false, false, false, false] rfl rfl (take_of rfl (by kernel_rfl)) (fun _ _ _ h => h) (Or.inl ⟨by rfl, ?_⟩) hHeld ?_ ?_
      rotate_left
      · rintro w' ⟨⟨q0, q1⟩, ⟨q2, q3⟩, q4, q5⟩
        go_simp
        with_reducible rfl
      rotate_left
      · simp only [Act.put, setIfInBounds_toArray, set_cons_zero, set_cons_succ, i64_w, i32_w]
        rfl
      refine take_ (i := 34) (N := some 112) (v := ?_) (a' := ?_) #[true, true, true, true, true, true, true, true, true, true, true, true, true, true, true, true, true, true, true, true, true, true, true, true, true, true, true, true, true, true, false, false, true, true, true, false, false, false, false, false] rfl rfl (take_of rfl (by kernel_rfl)) (fun _ _ _ h => h) (Or.inl ⟨by rfl, ?_⟩) hHeld ?_ ?_
      rotate_left
      · rintro w' ⟨⟨q0, q1⟩, ⟨q2, q3⟩, q4, q5⟩
        go_simp
        with_reducible rfl
      rotate_left
      · simp only [Act.put, setIfInBounds_toArray, set_cons_zero, set_cons_succ, i64_w, i32_w]
        rfl
      refine take_ (i := 35) (N := some 113) (v := ?_) (a' := ?_) #[true, true, true, true, true, true, true, true, true, true, true, true, true, true, true, true, true, true, true, true, true, true, true, true, true, true, true, true, true, true, false, false, true, true, true, true, false, false, false, false] rfl rfl (take_of rfl (by kernel_rfl)) (fun _ _ _ h => h) (Or.inl ⟨by rfl, ?_⟩) hHeld ?_ ?_
      rotate_left
      · rintro w' ⟨⟨q0, q1⟩, ⟨q2, q3⟩, q4, q5⟩
        go_simp
        with_reducible rfl
      rotate_left
      · simp only [Act.put, setIfInBounds_toArray, set_cons_zero, set_cons_succ, i64_w, i32_w]
        rfl
      refine pure_ (i := 36) (N := some 114) (v := ?_) (a' := ?_) #[true, true, true, true, true, true, true, true, true, true, true, true, true, true, true, true, true, true, true, true, true, true, true, true, true, true, true, true, true, true, false, false, true, true, true, true, true, false, false, false] rfl rfl (any_of rfl (by kernel_rfl)) (fun _ _ _ h => h) (Or.inl ⟨by rfl, ?_⟩) ?_ ?_
      rotate_left
      · intro w'
        go_simp
        with_reducible rfl
      rotate_left
      · simp only [Act.put, setIfInBounds_toArray, set_cons_zero, set_cons_succ, i64_w, i32_w]
        rfl
      refine one_ (i := 30) (N := some 108) #[true, true, true, true, true, true, true, true, true, true, true, true, true, true, true, true, true, true, true, true, true, true, true, true, true, true, true, true, true, true, true, false, true, true, true, true, true, false, false, false] rfl rfl (one_of rfl (by kernel_rfl)) (by decide) (fun K hK => ?_)
      refine goes_ Tryz.func27 (by kernel_rfl) rfl #[.int .i64 0, .agg #[.int .u64 X, .string ⟨#[]⟩], .agg #[.int .u64 Y, .string ⟨#[]⟩]] (by rfl) rfl rfl (by first | rfl | (simp only [map_toArray, map_nil]; done) | ((try simp only [map_toArray, map_cons, map_nil]); rfl)) ?_
      refine (H0.out _ (below_step HB.out m4)).mono ?_
      rintro e w2 ⟨rfl, hb⟩
      refine ⟨_, rfl, ?_⟩
      have m5 := below_step m4 hb
      refine hK.out _ _ (s3 BP.out BQ.out BN.out m5) (fun hHeld => ?_)
      clear hK K
      refine norm_ (a' := ?_) ?_ ?_
      rotate_left
      · show Act.put _ (some 108) _ = _
        simp only [Act.put, setIfInBounds_toArray, set_cons_zero, set_cons_succ, i64_w, i32_w]
        rfl
      clear hb m4
      refine pure_ (i := 31) (N := some 109) (v := ?_) (a' := ?_) #[true, true, true, true, true, true, true, true, true, true, true, true, true, true, true, true, true, true, true, true, true, true, true, true, true, true, true, true, true, true, true, true, true, true, true, true, true, false, false, false] rfl rfl (any_of rfl (by kernel_rfl)) (fun _ _ _ h => h) (Or.inl ⟨by rfl, ?_⟩) ?_ ?_
      rotate_left
      · intro w'
        go_simp
        with_reducible rfl
      rotate_left
      · simp only [Act.put, setIfInBounds_toArray, set_cons_zero, set_cons_succ, i64_w, i32_w]
        rfl
      refine pure_ (i := 37) (N := some 115) (v := ?_) (a' := ?_) #[true, true, true, true, true, true, true, true, true, true, true, true, true, true, true, true, true, true, true, true, true, true, true, true, true, true, true, true, true, true, true, true, true, true, true, true, true, true, false, false] rfl rfl (any_of rfl (by kernel_rfl)) (fun _ _ _ h => h) (Or.inl ⟨by rfl, ?_⟩) ?_ ?_
      rotate_left
      · intro w'
        go_simp
        with_reducible rfl
      rotate_left
      · simp only [Act.put, setIfInBounds_toArray, set_cons_zero, set_cons_succ, i64_w, i32_w]
        rfl
      refine pure_ (i := 38) (N := some 116) (v := ?_) (a' := ?_) #[true, true, true, true, true, true, true, true, true, true, true, true, true, true, true, true, true, true, true, true, true, true, true, true, true, true, true, true, true, true, true, true, true, true, true, true, true, true, true, false] rfl rfl (any_of rfl (by kernel_rfl)) (fun _ _ _ h => h) (Or.inl ⟨by rfl, ?_⟩) ?_ ?_
      rotate_left
      · intro w'
        go_simp
        with_reducible rfl
      rotate_left
      · simp only [Act.put, setIfInBounds_toArray, set_cons_zero, set_cons_succ, i64_w, i32_w]
        rfl
      refine pure_ (i := 39) (N := some 6) (v := ?_) (a' := ?_) #[true, true, true, true, true, true, true, true, true, true, true, true, true, true, true, true, true, true, true, true, true, true, true, true, true, true, true, true, true, true, true, true, true, true, true, true, true, true, true, true] rfl rfl (any_of rfl (by kernel_rfl)) (fun _ _ _ h => h) (Or.inl ⟨by rfl, ?_⟩) ?_ ?_
      rotate_left
      · intro w'
        go_simp
        with_reducible rfl
      rotate_left
      · simp only [Act.put, setIfInBounds_toArray, set_cons_zero, set_cons_succ, i64_w, i32_w]
        rfl
      refine done_ (done_of rfl (by kernel_rfl)) ?_
      have hfin := below_step HB.out m5
      go_wp2_with fail
      go_ret
      exact ⟨rfl, hfin⟩
    · have t6 : (er == 0) = false := beq_eq_false_iff_ne.mpr her
      clear her hcr hls hm hT hBt hU hE
      go_wp2_with fail
      refine (HRD.out _ HB.out).mono ?_
      rintro e w6 ⟨rfl, hb⟩
      replace BC := Aside0.mk (blk_below BC.out hb)
      replace BN := Aside0.mk (blk_below BN.out hb)
      replace HB := Aside0.mk (below_step HB.out hb)
      clear hb
      go_wp2_with (first | ((with_reducible refine gate_dst (N := 12) rfl ?_); refine box_event ?hg (N := 12) ?hd (cs := #[.int .u64 0, .string (⟨#[]⟩ : ByteArray)]) (t := 24) ?hr ?_; (case hd => rfl); (case hg => rfl); (case hr => first | (go_simp; done) | (go_simp; rfl)); intro g hg wb hbox hb; have hpc := blk_lt BC.out; have hpn := blk_lt BN.out; replace HB := Aside0.mk (below_step HB.out hb); replace BC := Aside0.mk (blk_below BC.out hb); replace BN := Aside0.mk (blk_below BN.out hb); have BG := Aside0.mk hbox; have HG := Aside0.mk (show w.heap.size ≤ g from by omega); have NE := Aside0.mk (show w.heap.size ≠ g ∧ w.heap.size + 1 ≠ g from ⟨by omega, by omega⟩); clear hpc hpn hb; obtain ⟨c0, c1, f0, f1, c2, f2⟩ := put_facts BG.out (.int .u64 0); clear hbox hg))
      obtain ⟨W', hW'⟩ : ∃ W, (wb.setCell ⟨g, 0, none⟩ (.int .u64 n)).setCell ⟨g, 1, none⟩ (.string t) = W := ⟨_, rfl⟩
      rw [hW']
      have pc := put_cell BG.out (.int .u64 n) (.string t)
      have hbs := below_set (j := 1) (v := .string t) (below_set (j := 0) (v := .int .u64 n) HB.out HG.out) HG.out
      rw [hW'] at pc hbs
      replace HB := Aside0.mk hbs
      replace BN := Aside0.mk ((pc.2 _ NE.out.2).trans BN.out)
      clear pc hbs hW' c0 c1 f0 f1 c2 f2 BC BG HG NE
      replace BN := Aside0.mk (show W'.drew.heap[w.heap.size + 1]? = some (.cells #[.int .i64 x, .int .i64 y] 36 (0, 0)) from BN.out)
      replace HB := Aside0.mk (below_drew1 HB.out)
      refine start_ (n := 10) (S := Two (w.heap.size + 1) x y) (ds := []) #[false, false, false, false, false, false, false, false, false, false] (by kernel_rfl) rfl rfl (two BN.out (Below.refl _ _)) (fun hHeld => ?_)
      generalize W'.drew = V at *
      clear W'
      refine take_ (i := 0) (N := some 72) (v := ?_) (a' := ?_) #[true, false, false, false, false, false, false, false, false, false] rfl rfl (take_of rfl (by kernel_rfl)) (fun _ _ _ h => h) (Or.inl ⟨by rfl, ?_⟩) hHeld ?_ ?_
      rotate_left
      · rintro w' ⟨q0, q1⟩
        go_simp
        with_reducible rfl
      rotate_left
      · simp only [Act.put, setIfInBounds_toArray, set_cons_zero, set_cons_succ, i64_w, i32_w]
        rfl
      refine take_ (i := 3) (N := some 75) (v := ?_) (a' := ?_) #[true, false, false, true, false, false, false, false, false, false] rfl rfl (take_of rfl (by kernel_rfl)) (fun _ _ _ h => h) (Or.inl ⟨by rfl, ?_⟩) hHeld ?_ ?_
      rotate_left
      · rintro w' ⟨q0, q1⟩
        go_simp
        with_reducible rfl
      rotate_left
      · simp only [Act.put, setIfInBounds_toArray, set_cons_zero, set_cons_succ, i64_w, i32_w]
        rfl
      refine take_ (i := 1) (N := some 73) (v := ?_) (a' := ?_) #[true, true, false, true, false, false, false, false, false, false] rfl rfl (take_of rfl (by kernel_rfl)) (fun _ _ _ h => h) (Or.inl ⟨by rfl, ?_⟩) hHeld ?_ ?_
      rotate_left
      · rintro w' ⟨q0, q1⟩
        go_simp
        with_reducible rfl
      rotate_left
      · simp only [Act.put, setIfInBounds_toArray, set_cons_zero, set_cons_succ, i64_w, i32_w]
        rfl
      refine take_ (i := 4) (N := some 76) (v := ?_) (a' := ?_) #[true, true, false, true, true, false, false, false, false, false] rfl rfl (take_of rfl (by kernel_rfl)) (fun _ _ _ h => h) (Or.inl ⟨by rfl, ?_⟩) hHeld ?_ ?_
      rotate_left
      · rintro w' ⟨q0, q1⟩
        go_simp
        with_reducible rfl
      rotate_left
      · simp only [Act.put, setIfInBounds_toArray, set_cons_zero, set_cons_succ, i64_w, i32_w]
        rfl
      refine join_ (σ := Nat × Nat) 2 #[true, true, true, true, true, true, true, true, false, false] (fun s => [(74, .agg #[.int .u64 X, .string ⟨#[]⟩]), (77, .agg #[.int .u64 Y, .string ⟨#[]⟩]), (16, .pointer (some ⟨s.1, 0, none⟩)), (17, .pointer (some ⟨s.2, 0, none⟩))]) (fun s w' => Z2 V w' s.1 s.2) ?_ (fun hcont => ?_)
      rotate_left
      · refine three_ (i := 2) (j := 6) (k := 7) (Ni := some 74) (Nj := some 16) (Nk := some 17) #[true, true, true, true, true, false, false, false, false, false] #[true, true, false, true, true, false, true, false, false, false] #[true, true, false, true, true, false, false, true, false, false] rfl rfl rfl rfl rfl rfl (three_of rfl (by kernel_rfl)) (by decide) (by decide) (by decide) (fun K hK => ?_) (fun K hK => ?_) (fun K hK => ?_)
        · refine goes_ Tryz.func25 (by kernel_rfl) rfl #[.int .i64 x] (by rfl) rfl rfl (by (try simp only [map_toArray, map_cons, map_nil]); rfl) ?_
          refine (HIX.out _).mono ?_
          rintro e U0 ⟨rfl, hc⟩
          refine ⟨_, rfl, ?_⟩
          have hb0 := below_step (Below.refl V.heap.size V) hc
          refine hK.out _ _ (two BN.out hb0) (fun _ => ?_)
          clear hK K hc
          refine norm_ (a' := ?_) ?_ ?_
          rotate_left
          · show Act.put _ (some 74) _ = _
            simp only [Act.put, setIfInBounds_toArray, set_cons_zero, set_cons_succ, i64_w, i32_w]
            rfl
          refine three_ (i := 5) (j := 6) (k := 7) (Ni := some 77) (Nj := some 16) (Nk := some 17) #[true, true, true, true, true, true, false, false, false, false] #[true, true, true, true, true, false, true, false, false, false] #[true, true, true, true, true, false, false, true, false, false] rfl rfl rfl rfl rfl rfl (three_of rfl (by kernel_rfl)) (by decide) (by decide) (by decide) (fun K hK => ?_) (fun K hK => ?_) (fun K hK => ?_)
          · refine goes_ Tryz.func25 (by kernel_rfl) rfl #[.int .i64 y] (by rfl) rfl rfl (by (try simp only [map_toArray, map_cons, map_nil]); rfl) ?_
            refine (HIY.out _).mono ?_
            rintro e U1 ⟨rfl, hc⟩
            refine ⟨_, rfl, ?_⟩
            have hb1 := below_step hb0 hc
            refine hK.out _ _ (two BN.out hb1) (fun _ => ?_)
            clear hK K hc
            refine norm_ (a' := ?_) ?_ ?_
            rotate_left
            · show Act.put _ (some 77) _ = _
              simp only [Act.put, setIfInBounds_toArray, set_cons_zero, set_cons_succ, i64_w, i32_w]
              rfl
            refine two_ (i := 6) (j := 7) (Ni := some 16) (Nj := some 17) #[true, true, true, true, true, true, true, false, false, false] #[true, true, true, true, true, true, false, true, false, false] rfl rfl rfl rfl (two_of rfl (by kernel_rfl)) (by decide) (by decide) (fun K hK => ?_) (fun K hK => ?_)
            · refine value_ (v := .pointer (some ⟨U1.heap.size, 0, none⟩)) (w1 := U1.alloc zc) (by rfl) rfl (by go_simp) ?_
              have z6 := heap_alloc_new U1 zc
              have g6 := hb1.size
              have hb2 := below_alloc hb1 zc
              refine hK.out _ _ (two BN.out hb2) (fun _ => ?_)
              clear hK K
              refine norm_ (a' := ?_) ?_ ?_
              rotate_left
              · show Act.put _ (some 16) _ = _
                simp only [Act.put, setIfInBounds_toArray, set_cons_zero, set_cons_succ, i64_w, i32_w]
                rfl
              obtain ⟨U2, hU2⟩ : ∃ u_, U1.alloc zc = u_ := ⟨_, rfl⟩
              rw [hU2] at z6 hb2 ⊢
              obtain ⟨p6, hp⟩ : ∃ p, U1.heap.size = p := ⟨_, rfl⟩
              rw [hp] at z6 g6  ⊢
              clear hU2 hp
              refine one_ (i := 7) (N := some 17) #[true, true, true, true, true, true, true, true, false, false] rfl rfl (one_of rfl (by kernel_rfl)) (by decide) (fun K hK => ?_)
              refine value_ (v := .pointer (some ⟨U2.heap.size, 0, none⟩)) (w1 := U2.alloc zc) (by rfl) rfl (by go_simp) ?_
              have z7 := heap_alloc_new U2 zc
              have g7 := hb2.size
              have ne : p6 ≠ U2.heap.size := Nat.ne_of_lt (blk_lt z6)
              replace z6 := blk_alloc z6 zc
              have hb3 := below_alloc hb2 zc
              refine hK.out _ _ (two BN.out hb3) (fun _ => ?_)
              clear hK K
              refine norm_ (a' := ?_) ?_ ?_
              rotate_left
              · show Act.put _ (some 17) _ = _
                simp only [Act.put, setIfInBounds_toArray, set_cons_zero, set_cons_succ, i64_w, i32_w]
                rfl
              obtain ⟨U3, hU2⟩ : ∃ u_, U2.alloc zc = u_ := ⟨_, rfl⟩
              rw [hU2] at z7 hb3 z6 ⊢
              obtain ⟨p7, hp⟩ : ∃ p, U2.heap.size = p := ⟨_, rfl⟩
              rw [hp] at z7 g7 ne ⊢
              clear hU2 hp
              exact hcont (p6, p7) _ ⟨z6, z7, ne, ⟨g6, g7⟩, hb3⟩
            · refine value_ (v := .pointer (some ⟨U1.heap.size, 0, none⟩)) (w1 := U1.alloc zc) (by rfl) rfl (by go_simp) ?_
              have z7 := heap_alloc_new U1 zc
              have g7 := hb1.size
              have hb2 := below_alloc hb1 zc
              refine hK.out _ _ (two BN.out hb2) (fun _ => ?_)
              clear hK K
              refine norm_ (a' := ?_) ?_ ?_
              rotate_left
              · show Act.put _ (some 17) _ = _
                simp only [Act.put, setIfInBounds_toArray, set_cons_zero, set_cons_succ, i64_w, i32_w]
                rfl
              obtain ⟨U2, hU2⟩ : ∃ u_, U1.alloc zc = u_ := ⟨_, rfl⟩
              rw [hU2] at z7 hb2 ⊢
              obtain ⟨p7, hp⟩ : ∃ p, U1.heap.size = p := ⟨_, rfl⟩
              rw [hp] at z7 g7  ⊢
              clear hU2 hp
              refine one_ (i := 6) (N := some 16) #[true, true, true, true, true, true, true, true, false, false] rfl rfl (one_of rfl (by kernel_rfl)) (by decide) (fun K hK => ?_)
              refine value_ (v := .pointer (some ⟨U2.heap.size, 0, none⟩)) (w1 := U2.alloc zc) (by rfl) rfl (by go_simp) ?_
              have z6 := heap_alloc_new U2 zc
              have g6 := hb2.size
              have ne : p7 ≠ U2.heap.size := Nat.ne_of_lt (blk_lt z7)
              replace z7 := blk_alloc z7 zc
              have hb3 := below_alloc hb2 zc
              refine hK.out _ _ (two BN.out hb3) (fun _ => ?_)
              clear hK K
              refine norm_ (a' := ?_) ?_ ?_
              rotate_left
              · show Act.put _ (some 16) _ = _
                simp only [Act.put, setIfInBounds_toArray, set_cons_zero, set_cons_succ, i64_w, i32_w]
                rfl
              obtain ⟨U3, hU2⟩ : ∃ u_, U2.alloc zc = u_ := ⟨_, rfl⟩
              rw [hU2] at z6 hb3 z7 ⊢
              obtain ⟨p6, hp⟩ : ∃ p, U2.heap.size = p := ⟨_, rfl⟩
              rw [hp] at z6 g6 ne ⊢
              clear hU2 hp
              exact hcont (p6, p7) _ ⟨z6, z7, (fun h => ne h.symm), ⟨g6, g7⟩, hb3⟩
          · refine value_ (v := .pointer (some ⟨U0.heap.size, 0, none⟩)) (w1 := U0.alloc zc) (by rfl) rfl (by go_simp) ?_
            have z6 := heap_alloc_new U0 zc
            have g6 := hb0.size
            have hb1 := below_alloc hb0 zc
            refine hK.out _ _ (two BN.out hb1) (fun _ => ?_)
            clear hK K
            refine norm_ (a' := ?_) ?_ ?_
            rotate_left
            · show Act.put _ (some 16) _ = _
              simp only [Act.put, setIfInBounds_toArray, set_cons_zero, set_cons_succ, i64_w, i32_w]
              rfl
            obtain ⟨U1, hU2⟩ : ∃ u_, U0.alloc zc = u_ := ⟨_, rfl⟩
            rw [hU2] at z6 hb1 ⊢
            obtain ⟨p6, hp⟩ : ∃ p, U0.heap.size = p := ⟨_, rfl⟩
            rw [hp] at z6 g6  ⊢
            clear hU2 hp
            refine two_ (i := 5) (j := 7) (Ni := some 77) (Nj := some 17) #[true, true, true, true, true, true, true, false, false, false] #[true, true, true, true, true, false, true, true, false, false] rfl rfl rfl rfl (two_of rfl (by kernel_rfl)) (by decide) (by decide) (fun K hK => ?_) (fun K hK => ?_)
            · refine goes_ Tryz.func25 (by kernel_rfl) rfl #[.int .i64 y] (by rfl) rfl rfl (by (try simp only [map_toArray, map_cons, map_nil]); rfl) ?_
              refine (HIY.out _).mono ?_
              rintro e U2 ⟨rfl, hc⟩
              refine ⟨_, rfl, ?_⟩
              have hb2 := below_step hb1 hc
              replace z6 := blk_below z6 hc
              refine hK.out _ _ (two BN.out hb2) (fun _ => ?_)
              clear hK K hc
              refine norm_ (a' := ?_) ?_ ?_
              rotate_left
              · show Act.put _ (some 77) _ = _
                simp only [Act.put, setIfInBounds_toArray, set_cons_zero, set_cons_succ, i64_w, i32_w]
                rfl
              refine one_ (i := 7) (N := some 17) #[true, true, true, true, true, true, true, true, false, false] rfl rfl (one_of rfl (by kernel_rfl)) (by decide) (fun K hK => ?_)
              refine value_ (v := .pointer (some ⟨U2.heap.size, 0, none⟩)) (w1 := U2.alloc zc) (by rfl) rfl (by go_simp) ?_
              have z7 := heap_alloc_new U2 zc
              have g7 := hb2.size
              have ne : p6 ≠ U2.heap.size := Nat.ne_of_lt (blk_lt z6)
              replace z6 := blk_alloc z6 zc
              have hb3 := below_alloc hb2 zc
              refine hK.out _ _ (two BN.out hb3) (fun _ => ?_)
              clear hK K
              refine norm_ (a' := ?_) ?_ ?_
              rotate_left
              · show Act.put _ (some 17) _ = _
                simp only [Act.put, setIfInBounds_toArray, set_cons_zero, set_cons_succ, i64_w, i32_w]
                rfl
              obtain ⟨U3, hU2⟩ : ∃ u_, U2.alloc zc = u_ := ⟨_, rfl⟩
              rw [hU2] at z7 hb3 z6 ⊢
              obtain ⟨p7, hp⟩ : ∃ p, U2.heap.size = p := ⟨_, rfl⟩
              rw [hp] at z7 g7 ne ⊢
              clear hU2 hp
              exact hcont (p6, p7) _ ⟨z6, z7, ne, ⟨g6, g7⟩, hb3⟩
            · refine value_ (v := .pointer (some ⟨U1.heap.size, 0, none⟩)) (w1 := U1.alloc zc) (by rfl) rfl (by go_simp) ?_
              have z7 := heap_alloc_new U1 zc
              have g7 := hb1.size
              have ne : p6 ≠ U1.heap.size := Nat.ne_of_lt (blk_lt z6)
              replace z6 := blk_alloc z6 zc
              have hb2 := below_alloc hb1 zc
              refine hK.out _ _ (two BN.out hb2) (fun _ => ?_)
              clear hK K
              refine norm_ (a' := ?_) ?_ ?_
              rotate_left
              · show Act.put _ (some 17) _ = _
                simp only [Act.put, setIfInBounds_toArray, set_cons_zero, set_cons_succ, i64_w, i32_w]
                rfl
              obtain ⟨U2, hU2⟩ : ∃ u_, U1.alloc zc = u_ := ⟨_, rfl⟩
              rw [hU2] at z7 hb2 z6 ⊢
              obtain ⟨p7, hp⟩ : ∃ p, U1.heap.size = p := ⟨_, rfl⟩
              rw [hp] at z7 g7 ne ⊢
              clear hU2 hp
              refine one_ (i := 5) (N := some 77) #[true, true, true, true, true, true, true, true, false, false] rfl rfl (one_of rfl (by kernel_rfl)) (by decide) (fun K hK => ?_)
              refine goes_ Tryz.func25 (by kernel_rfl) rfl #[.int .i64 y] (by rfl) rfl rfl (by (try simp only [map_toArray, map_cons, map_nil]); rfl) ?_
              refine (HIY.out _).mono ?_
              rintro e U3 ⟨rfl, hc⟩
              refine ⟨_, rfl, ?_⟩
              have hb3 := below_step hb2 hc
              replace z6 := blk_below z6 hc
              replace z7 := blk_below z7 hc
              refine hK.out _ _ (two BN.out hb3) (fun _ => ?_)
              clear hK K hc
              refine norm_ (a' := ?_) ?_ ?_
              rotate_left
              · show Act.put _ (some 77) _ = _
                simp only [Act.put, setIfInBounds_toArray, set_cons_zero, set_cons_succ, i64_w, i32_w]
                rfl
              exact hcont (p6, p7) _ ⟨z6, z7, ne, ⟨g6, g7⟩, hb3⟩
          · refine value_ (v := .pointer (some ⟨U0.heap.size, 0, none⟩)) (w1 := U0.alloc zc) (by rfl) rfl (by go_simp) ?_
            have z7 := heap_alloc_new U0 zc
            have g7 := hb0.size
            have hb1 := below_alloc hb0 zc
            refine hK.out _ _ (two BN.out hb1) (fun _ => ?_)
            clear hK K
            refine norm_ (a' := ?_) ?_ ?_
            rotate_left
            · show Act.put _ (some 17) _ = _
              simp only [Act.put, setIfInBounds_toArray, set_cons_zero, set_cons_succ, i64_w, i32_w]
              rfl
            obtain ⟨U1, hU2⟩ : ∃ u_, U0.alloc zc = u_ := ⟨_, rfl⟩
            rw [hU2] at z7 hb1 ⊢
            obtain ⟨p7, hp⟩ : ∃ p, U0.heap.size = p := ⟨_, rfl⟩
            rw [hp] at z7 g7  ⊢
            clear hU2 hp
            refine two_ (i := 5) (j := 6) (Ni := some 77) (Nj := some 16) #[true, true, true, true, true, true, false, true, false, false] #[true, true, true, true, true, false, true, true, false, false] rfl rfl rfl rfl (two_of rfl (by kernel_rfl)) (by decide) (by decide) (fun K hK => ?_) (fun K hK => ?_)
            · refine goes_ Tryz.func25 (by kernel_rfl) rfl #[.int .i64 y] (by rfl) rfl rfl (by (try simp only [map_toArray, map_cons, map_nil]); rfl) ?_
              refine (HIY.out _).mono ?_
              rintro e U2 ⟨rfl, hc⟩
              refine ⟨_, rfl, ?_⟩
              have hb2 := below_step hb1 hc
              replace z7 := blk_below z7 hc
              refine hK.out _ _ (two BN.out hb2) (fun _ => ?_)
              clear hK K hc
              refine norm_ (a' := ?_) ?_ ?_
              rotate_left
              · show Act.put _ (some 77) _ = _
                simp only [Act.put, setIfInBounds_toArray, set_cons_zero, set_cons_succ, i64_w, i32_w]
                rfl
              refine one_ (i := 6) (N := some 16) #[true, true, true, true, true, true, true, true, false, false] rfl rfl (one_of rfl (by kernel_rfl)) (by decide) (fun K hK => ?_)
              refine value_ (v := .pointer (some ⟨U2.heap.size, 0, none⟩)) (w1 := U2.alloc zc) (by rfl) rfl (by go_simp) ?_
              have z6 := heap_alloc_new U2 zc
              have g6 := hb2.size
              have ne : p7 ≠ U2.heap.size := Nat.ne_of_lt (blk_lt z7)
              replace z7 := blk_alloc z7 zc
              have hb3 := below_alloc hb2 zc
              refine hK.out _ _ (two BN.out hb3) (fun _ => ?_)
              clear hK K
              refine norm_ (a' := ?_) ?_ ?_
              rotate_left
              · show Act.put _ (some 16) _ = _
                simp only [Act.put, setIfInBounds_toArray, set_cons_zero, set_cons_succ, i64_w, i32_w]
                rfl
              obtain ⟨U3, hU2⟩ : ∃ u_, U2.alloc zc = u_ := ⟨_, rfl⟩
              rw [hU2] at z6 hb3 z7 ⊢
              obtain ⟨p6, hp⟩ : ∃ p, U2.heap.size = p := ⟨_, rfl⟩
              rw [hp] at z6 g6 ne ⊢
              clear hU2 hp
              exact hcont (p6, p7) _ ⟨z6, z7, (fun h => ne h.symm), ⟨g6, g7⟩, hb3⟩
            · refine value_ (v := .pointer (some ⟨U1.heap.size, 0, none⟩)) (w1 := U1.alloc zc) (by rfl) rfl (by go_simp) ?_
              have z6 := heap_alloc_new U1 zc
              have g6 := hb1.size
              have ne : p7 ≠ U1.heap.size := Nat.ne_of_lt (blk_lt z7)
              replace z7 := blk_alloc z7 zc
              have hb2 := below_alloc hb1 zc
              refine hK.out _ _ (two BN.out hb2) (fun _ => ?_)
              clear hK K
              refine norm_ (a' := ?_) ?_ ?_
              rotate_left
              · show Act.put _ (some 16) _ = _
                simp only [Act.put, setIfInBounds_toArray, set_cons_zero, set_cons_succ, i64_w, i32_w]
                rfl
              obtain ⟨U2, hU2⟩ : ∃ u_, U1.alloc zc = u_ := ⟨_, rfl⟩
              rw [hU2] at z6 hb2 z7 ⊢
              obtain ⟨p6, hp⟩ : ∃ p, U1.heap.size = p := ⟨_, rfl⟩
              rw [hp] at z6 g6 ne ⊢
              clear hU2 hp
              refine one_ (i := 5) (N := some 77) #[true, true, true, true, true, true, true, true, false, false] rfl rfl (one_of rfl (by kernel_rfl)) (by decide) (fun K hK => ?_)
              refine goes_ Tryz.func25 (by kernel_rfl) rfl #[.int .i64 y] (by rfl) rfl rfl (by (try simp only [map_toArray, map_cons, map_nil]); rfl) ?_
              refine (HIY.out _).mono ?_
              rintro e U3 ⟨rfl, hc⟩
              refine ⟨_, rfl, ?_⟩
              have hb3 := below_step hb2 hc
              replace z6 := blk_below z6 hc
              replace z7 := blk_below z7 hc
              refine hK.out _ _ (two BN.out hb3) (fun _ => ?_)
              clear hK K hc
              refine norm_ (a' := ?_) ?_ ?_
              rotate_left
              · show Act.put _ (some 77) _ = _
                simp only [Act.put, setIfInBounds_toArray, set_cons_zero, set_cons_succ, i64_w, i32_w]
                rfl
              exact hcont (p6, p7) _ ⟨z6, z7, (fun h => ne h.symm), ⟨g6, g7⟩, hb3⟩
        · refine value_ (v := .pointer (some ⟨V.heap.size, 0, none⟩)) (w1 := V.alloc zc) (by rfl) rfl (by go_simp) ?_
          have z6 := heap_alloc_new V zc
          have hb0 := below_alloc (Below.refl V.heap.size V) zc
          refine hK.out _ _ (two BN.out hb0) (fun _ => ?_)
          clear hK K
          refine norm_ (a' := ?_) ?_ ?_
          rotate_left
          · show Act.put _ (some 16) _ = _
            simp only [Act.put, setIfInBounds_toArray, set_cons_zero, set_cons_succ, i64_w, i32_w]
            rfl
          obtain ⟨U0, hU2⟩ : ∃ u_, V.alloc zc = u_ := ⟨_, rfl⟩
          rw [hU2] at z6 hb0 ⊢
          obtain ⟨p6, hp⟩ : ∃ p, V.heap.size = p := ⟨_, rfl⟩
          rw [hp] at z6   ⊢
          have g6 := Nat.le_of_eq hp
          clear hU2 hp
          refine two_ (i := 2) (j := 7) (Ni := some 74) (Nj := some 17) #[true, true, true, true, true, false, true, false, false, false] #[true, true, false, true, true, false, true, true, false, false] rfl rfl rfl rfl (two_of rfl (by kernel_rfl)) (by decide) (by decide) (fun K hK => ?_) (fun K hK => ?_)
          · refine goes_ Tryz.func25 (by kernel_rfl) rfl #[.int .i64 x] (by rfl) rfl rfl (by (try simp only [map_toArray, map_cons, map_nil]); rfl) ?_
            refine (HIX.out _).mono ?_
            rintro e U1 ⟨rfl, hc⟩
            refine ⟨_, rfl, ?_⟩
            have hb1 := below_step hb0 hc
            replace z6 := blk_below z6 hc
            refine hK.out _ _ (two BN.out hb1) (fun _ => ?_)
            clear hK K hc
            refine norm_ (a' := ?_) ?_ ?_
            rotate_left
            · show Act.put _ (some 74) _ = _
              simp only [Act.put, setIfInBounds_toArray, set_cons_zero, set_cons_succ, i64_w, i32_w]
              rfl
            refine two_ (i := 5) (j := 7) (Ni := some 77) (Nj := some 17) #[true, true, true, true, true, true, true, false, false, false] #[true, true, true, true, true, false, true, true, false, false] rfl rfl rfl rfl (two_of rfl (by kernel_rfl)) (by decide) (by decide) (fun K hK => ?_) (fun K hK => ?_)
            · refine goes_ Tryz.func25 (by kernel_rfl) rfl #[.int .i64 y] (by rfl) rfl rfl (by (try simp only [map_toArray, map_cons, map_nil]); rfl) ?_
              refine (HIY.out _).mono ?_
              rintro e U2 ⟨rfl, hc⟩
              refine ⟨_, rfl, ?_⟩
              have hb2 := below_step hb1 hc
              replace z6 := blk_below z6 hc
              refine hK.out _ _ (two BN.out hb2) (fun _ => ?_)
              clear hK K hc
              refine norm_ (a' := ?_) ?_ ?_
              rotate_left
              · show Act.put _ (some 77) _ = _
                simp only [Act.put, setIfInBounds_toArray, set_cons_zero, set_cons_succ, i64_w, i32_w]
                rfl
              refine one_ (i := 7) (N := some 17) #[true, true, true, true, true, true, true, true, false, false] rfl rfl (one_of rfl (by kernel_rfl)) (by decide) (fun K hK => ?_)
              refine value_ (v := .pointer (some ⟨U2.heap.size, 0, none⟩)) (w1 := U2.alloc zc) (by rfl) rfl (by go_simp) ?_
              have z7 := heap_alloc_new U2 zc
              have g7 := hb2.size
              have ne : p6 ≠ U2.heap.size := Nat.ne_of_lt (blk_lt z6)
              replace z6 := blk_alloc z6 zc
              have hb3 := below_alloc hb2 zc
              refine hK.out _ _ (two BN.out hb3) (fun _ => ?_)
              clear hK K
              refine norm_ (a' := ?_) ?_ ?_
              rotate_left
              · show Act.put _ (some 17) _ = _
                simp only [Act.put, setIfInBounds_toArray, set_cons_zero, set_cons_succ, i64_w, i32_w]
                rfl
              obtain ⟨U3, hU2⟩ : ∃ u_, U2.alloc zc = u_ := ⟨_, rfl⟩
              rw [hU2] at z7 hb3 z6 ⊢
              obtain ⟨p7, hp⟩ : ∃ p, U2.heap.size = p := ⟨_, rfl⟩
              rw [hp] at z7 g7 ne ⊢
              clear hU2 hp
              exact hcont (p6, p7) _ ⟨z6, z7, ne, ⟨g6, g7⟩, hb3⟩
            · refine value_ (v := .pointer (some ⟨U1.heap.size, 0, none⟩)) (w1 := U1.alloc zc) (by rfl) rfl (by go_simp) ?_
              have z7 := heap_alloc_new U1 zc
              have g7 := hb1.size
              have ne : p6 ≠ U1.heap.size := Nat.ne_of_lt (blk_lt z6)
              replace z6 := blk_alloc z6 zc
              have hb2 := below_alloc hb1 zc
              refine hK.out _ _ (two BN.out hb2) (fun _ => ?_)
              clear hK K
              refine norm_ (a' := ?_) ?_ ?_
              rotate_left
              · show Act.put _ (some 17) _ = _
                simp only [Act.put, setIfInBounds_toArray, set_cons_zero, set_cons_succ, i64_w, i32_w]
                rfl
              obtain ⟨U2, hU2⟩ : ∃ u_, U1.alloc zc = u_ := ⟨_, rfl⟩
              rw [hU2] at z7 hb2 z6 ⊢
              obtain ⟨p7, hp⟩ : ∃ p, U1.heap.size = p := ⟨_, rfl⟩
              rw [hp] at z7 g7 ne ⊢
              clear hU2 hp
              refine one_ (i := 5) (N := some 77) #[true, true, true, true, true, true, true, true, false, false] rfl rfl (one_of rfl (by kernel_rfl)) (by decide) (fun K hK => ?_)
              refine goes_ Tryz.func25 (by kernel_rfl) rfl #[.int .i64 y] (by rfl) rfl rfl (by (try simp only [map_toArray, map_cons, map_nil]); rfl) ?_
              refine (HIY.out _).mono ?_
              rintro e U3 ⟨rfl, hc⟩
              refine ⟨_, rfl, ?_⟩
              have hb3 := below_step hb2 hc
              replace z6 := blk_below z6 hc
              replace z7 := blk_below z7 hc
              refine hK.out _ _ (two BN.out hb3) (fun _ => ?_)
              clear hK K hc
              refine norm_ (a' := ?_) ?_ ?_
              rotate_left
              · show Act.put _ (some 77) _ = _
                simp only [Act.put, setIfInBounds_toArray, set_cons_zero, set_cons_succ, i64_w, i32_w]
                rfl
              exact hcont (p6, p7) _ ⟨z6, z7, ne, ⟨g6, g7⟩, hb3⟩
          · refine value_ (v := .pointer (some ⟨U0.heap.size, 0, none⟩)) (w1 := U0.alloc zc) (by rfl) rfl (by go_simp) ?_
            have z7 := heap_alloc_new U0 zc
            have g7 := hb0.size
            have ne : p6 ≠ U0.heap.size := Nat.ne_of_lt (blk_lt z6)
            replace z6 := blk_alloc z6 zc
            have hb1 := below_alloc hb0 zc
            refine hK.out _ _ (two BN.out hb1) (fun _ => ?_)
            clear hK K
            refine norm_ (a' := ?_) ?_ ?_
            rotate_left
            · show Act.put _ (some 17) _ = _
              simp only [Act.put, setIfInBounds_toArray, set_cons_zero, set_cons_succ, i64_w, i32_w]
              rfl
            obtain ⟨U1, hU2⟩ : ∃ u_, U0.alloc zc = u_ := ⟨_, rfl⟩
            rw [hU2] at z7 hb1 z6 ⊢
            obtain ⟨p7, hp⟩ : ∃ p, U0.heap.size = p := ⟨_, rfl⟩
            rw [hp] at z7 g7 ne ⊢
            clear hU2 hp
            refine one_ (i := 2) (N := some 74) #[true, true, true, true, true, false, true, true, false, false] rfl rfl (one_of rfl (by kernel_rfl)) (by decide) (fun K hK => ?_)
            refine goes_ Tryz.func25 (by kernel_rfl) rfl #[.int .i64 x] (by rfl) rfl rfl (by (try simp only [map_toArray, map_cons, map_nil]); rfl) ?_
            refine (HIX.out _).mono ?_
            rintro e U2 ⟨rfl, hc⟩
            refine ⟨_, rfl, ?_⟩
            have hb2 := below_step hb1 hc
            replace z6 := blk_below z6 hc
            replace z7 := blk_below z7 hc
            refine hK.out _ _ (two BN.out hb2) (fun _ => ?_)
            clear hK K hc
            refine norm_ (a' := ?_) ?_ ?_
            rotate_left
            · show Act.put _ (some 74) _ = _
              simp only [Act.put, setIfInBounds_toArray, set_cons_zero, set_cons_succ, i64_w, i32_w]
              rfl
            refine one_ (i := 5) (N := some 77) #[true, true, true, true, true, true, true, true, false, false] rfl rfl (one_of rfl (by kernel_rfl)) (by decide) (fun K hK => ?_)
            refine goes_ Tryz.func25 (by kernel_rfl) rfl #[.int .i64 y] (by rfl) rfl rfl (by (try simp only [map_toArray, map_cons, map_nil]); rfl) ?_
            refine (HIY.out _).mono ?_
            rintro e U3 ⟨rfl, hc⟩
            refine ⟨_, rfl, ?_⟩
            have hb3 := below_step hb2 hc
            replace z6 := blk_below z6 hc
            replace z7 := blk_below z7 hc
            refine hK.out _ _ (two BN.out hb3) (fun _ => ?_)
            clear hK K hc
            refine norm_ (a' := ?_) ?_ ?_
            rotate_left
            · show Act.put _ (some 77) _ = _
              simp only [Act.put, setIfInBounds_toArray, set_cons_zero, set_cons_succ, i64_w, i32_w]
              rfl
            exact hcont (p6, p7) _ ⟨z6, z7, ne, ⟨g6, g7⟩, hb3⟩
        · refine value_ (v := .pointer (some ⟨V.heap.size, 0, none⟩)) (w1 := V.alloc zc) (by rfl) rfl (by go_simp) ?_
          have z7 := heap_alloc_new V zc
          have hb0 := below_alloc (Below.refl V.heap.size V) zc
          refine hK.out _ _ (two BN.out hb0) (fun _ => ?_)
          clear hK K
          refine norm_ (a' := ?_) ?_ ?_
          rotate_left
          · show Act.put _ (some 17) _ = _
            simp only [Act.put, setIfInBounds_toArray, set_cons_zero, set_cons_succ, i64_w, i32_w]
            rfl
          obtain ⟨U0, hU2⟩ : ∃ u_, V.alloc zc = u_ := ⟨_, rfl⟩
          rw [hU2] at z7 hb0 ⊢
          obtain ⟨p7, hp⟩ : ∃ p, V.heap.size = p := ⟨_, rfl⟩
          rw [hp] at z7   ⊢
          have g7 := Nat.le_of_eq hp
          clear hU2 hp
          refine two_ (i := 2) (j := 6) (Ni := some 74) (Nj := some 16) #[true, true, true, true, true, false, false, true, false, false] #[true, true, false, true, true, false, true, true, false, false] rfl rfl rfl rfl (two_of rfl (by kernel_rfl)) (by decide) (by decide) (fun K hK => ?_) (fun K hK => ?_)
          · refine goes_ Tryz.func25 (by kernel_rfl) rfl #[.int .i64 x] (by rfl) rfl rfl (by (try simp only [map_toArray, map_cons, map_nil]); rfl) ?_
            refine (HIX.out _).mono ?_
            rintro e U1 ⟨rfl, hc⟩
            refine ⟨_, rfl, ?_⟩
            have hb1 := below_step hb0 hc
            replace z7 := blk_below z7 hc
            refine hK.out _ _ (two BN.out hb1) (fun _ => ?_)
            clear hK K hc
            refine norm_ (a' := ?_) ?_ ?_
            rotate_left
            · show Act.put _ (some 74) _ = _
              simp only [Act.put, setIfInBounds_toArray, set_cons_zero, set_cons_succ, i64_w, i32_w]
              rfl
            refine two_ (i := 5) (j := 6) (Ni := some 77) (Nj := some 16) #[true, true, true, true, true, true, false, true, false, false] #[true, true, true, true, true, false, true, true, false, false] rfl rfl rfl rfl (two_of rfl (by kernel_rfl)) (by decide) (by decide) (fun K hK => ?_) (fun K hK => ?_)
            · refine goes_ Tryz.func25 (by kernel_rfl) rfl #[.int .i64 y] (by rfl) rfl rfl (by (try simp only [map_toArray, map_cons, map_nil]); rfl) ?_
              refine (HIY.out _).mono ?_
              rintro e U2 ⟨rfl, hc⟩
              refine ⟨_, rfl, ?_⟩
              have hb2 := below_step hb1 hc
              replace z7 := blk_below z7 hc
              refine hK.out _ _ (two BN.out hb2) (fun _ => ?_)
              clear hK K hc
              refine norm_ (a' := ?_) ?_ ?_
              rotate_left
              · show Act.put _ (some 77) _ = _
                simp only [Act.put, setIfInBounds_toArray, set_cons_zero, set_cons_succ, i64_w, i32_w]
                rfl
              refine one_ (i := 6) (N := some 16) #[true, true, true, true, true, true, true, true, false, false] rfl rfl (one_of rfl (by kernel_rfl)) (by decide) (fun K hK => ?_)
              refine value_ (v := .pointer (some ⟨U2.heap.size, 0, none⟩)) (w1 := U2.alloc zc) (by rfl) rfl (by go_simp) ?_
              have z6 := heap_alloc_new U2 zc
              have g6 := hb2.size
              have ne : p7 ≠ U2.heap.size := Nat.ne_of_lt (blk_lt z7)
              replace z7 := blk_alloc z7 zc
              have hb3 := below_alloc hb2 zc
              refine hK.out _ _ (two BN.out hb3) (fun _ => ?_)
              clear hK K
              refine norm_ (a' := ?_) ?_ ?_
              rotate_left
              · show Act.put _ (some 16) _ = _
                simp only [Act.put, setIfInBounds_toArray, set_cons_zero, set_cons_succ, i64_w, i32_w]
                rfl
              obtain ⟨U3, hU2⟩ : ∃ u_, U2.alloc zc = u_ := ⟨_, rfl⟩
              rw [hU2] at z6 hb3 z7 ⊢
              obtain ⟨p6, hp⟩ : ∃ p, U2.heap.size = p := ⟨_, rfl⟩
              rw [hp] at z6 g6 ne ⊢
              clear hU2 hp
              exact hcont (p6, p7) _ ⟨z6, z7, (fun h => ne h.symm), ⟨g6, g7⟩, hb3⟩
            · refine value_ (v := .pointer (some ⟨U1.heap.size, 0, none⟩)) (w1 := U1.alloc zc) (by rfl) rfl (by go_simp) ?_
              have z6 := heap_alloc_new U1 zc
              have g6 := hb1.size
              have ne : p7 ≠ U1.heap.size := Nat.ne_of_lt (blk_lt z7)
              replace z7 := blk_alloc z7 zc
              have hb2 := below_alloc hb1 zc
              refine hK.out _ _ (two BN.out hb2) (fun _ => ?_)
              clear hK K
              refine norm_ (a' := ?_) ?_ ?_
              rotate_left
              · show Act.put _ (some 16) _ = _
                simp only [Act.put, setIfInBounds_toArray, set_cons_zero, set_cons_succ, i64_w, i32_w]
                rfl
              obtain ⟨U2, hU2⟩ : ∃ u_, U1.alloc zc = u_ := ⟨_, rfl⟩
              rw [hU2] at z6 hb2 z7 ⊢
              obtain ⟨p6, hp⟩ : ∃ p, U1.heap.size = p := ⟨_, rfl⟩
              rw [hp] at z6 g6 ne ⊢
              clear hU2 hp
              refine one_ (i := 5) (N := some 77) #[true, true, true, true, true, true, true, true, false, false] rfl rfl (one_of rfl (by kernel_rfl)) (by decide) (fun K hK => ?_)
              refine goes_ Tryz.func25 (by kernel_rfl) rfl #[.int .i64 y] (by rfl) rfl rfl (by (try simp only [map_toArray, map_cons, map_nil]); rfl) ?_
              refine (HIY.out _).mono ?_
              rintro e U3 ⟨rfl, hc⟩
              refine ⟨_, rfl, ?_⟩
              have hb3 := below_step hb2 hc
              replace z6 := blk_below z6 hc
              replace z7 := blk_below z7 hc
              refine hK.out _ _ (two BN.out hb3) (fun _ => ?_)
              clear hK K hc
              refine norm_ (a' := ?_) ?_ ?_
              rotate_left
              · show Act.put _ (some 77) _ = _
                simp only [Act.put, setIfInBounds_toArray, set_cons_zero, set_cons_succ, i64_w, i32_w]
                rfl
              exact hcont (p6, p7) _ ⟨z6, z7, (fun h => ne h.symm), ⟨g6, g7⟩, hb3⟩
          · refine value_ (v := .pointer (some ⟨U0.heap.size, 0, none⟩)) (w1 := U0.alloc zc) (by rfl) rfl (by go_simp) ?_
            have z6 := heap_alloc_new U0 zc
            have g6 := hb0.size
            have ne : p7 ≠ U0.heap.size := Nat.ne_of_lt (blk_lt z7)
            replace z7 := blk_alloc z7 zc
            have hb1 := below_alloc hb0 zc
            refine hK.out _ _ (two BN.out hb1) (fun _ => ?_)
            clear hK K
            refine norm_ (a' := ?_) ?_ ?_
            rotate_left
            · show Act.put _ (some 16) _ = _
              simp only [Act.put, setIfInBounds_toArray, set_cons_zero, set_cons_succ, i64_w, i32_w]
              rfl
            obtain ⟨U1, hU2⟩ : ∃ u_, U0.alloc zc = u_ := ⟨_, rfl⟩
            rw [hU2] at z6 hb1 z7 ⊢
            obtain ⟨p6, hp⟩ : ∃ p, U0.heap.size = p := ⟨_, rfl⟩
            rw [hp] at z6 g6 ne ⊢
            clear hU2 hp
            refine one_ (i := 2) (N := some 74) #[true, true, true, true, true, false, true, true, false, false] rfl rfl (one_of rfl (by kernel_rfl)) (by decide) (fun K hK => ?_)
            refine goes_ Tryz.func25 (by kernel_rfl) rfl #[.int .i64 x] (by rfl) rfl rfl (by (try simp only [map_toArray, map_cons, map_nil]); rfl) ?_
            refine (HIX.out _).mono ?_
            rintro e U2 ⟨rfl, hc⟩
            refine ⟨_, rfl, ?_⟩
            have hb2 := below_step hb1 hc
            replace z6 := blk_below z6 hc
            replace z7 := blk_below z7 hc
            refine hK.out _ _ (two BN.out hb2) (fun _ => ?_)
            clear hK K hc
            refine norm_ (a' := ?_) ?_ ?_
            rotate_left
            · show Act.put _ (some 74) _ = _
              simp only [Act.put, setIfInBounds_toArray, set_cons_zero, set_cons_succ, i64_w, i32_w]
              rfl
            refine one_ (i := 5) (N := some 77) #[true, true, true, true, true, true, true, true, false, false] rfl rfl (one_of rfl (by kernel_rfl)) (by decide) (fun K hK => ?_)
            refine goes_ Tryz.func25 (by kernel_rfl) rfl #[.int .i64 y] (by rfl) rfl rfl (by (try simp only [map_toArray, map_cons, map_nil]); rfl) ?_
            refine (HIY.out _).mono ?_
            rintro e U3 ⟨rfl, hc⟩
            refine ⟨_, rfl, ?_⟩
            have hb3 := below_step hb2 hc
            replace z6 := blk_below z6 hc
            replace z7 := blk_below z7 hc
            refine hK.out _ _ (two BN.out hb3) (fun _ => ?_)
            clear hK K hc
            refine norm_ (a' := ?_) ?_ ?_
            rotate_left
            · show Act.put _ (some 77) _ = _
              simp only [Act.put, setIfInBounds_toArray, set_cons_zero, set_cons_succ, i64_w, i32_w]
              rfl
            exact hcont (p6, p7) _ ⟨z6, z7, (fun h => ne h.symm), ⟨g6, g7⟩, hb3⟩
      rintro ⟨p, q⟩ U ⟨z0, z1, ne, ⟨g0, g1⟩, hbU⟩
      refine norm_ (a' := ?_) ?_ ?_
      rotate_left
      · simp only [putAll, Act.put, setIfInBounds_toArray, set_cons_zero, set_cons_succ]
        rfl
      obtain ⟨c0, c1, f0, f1, c2, f2⟩ := put_facts z0 (.int .u64 X)
      obtain ⟨y_p, yy⟩ := put_cell z0 (.int .u64 X) (.string (⟨#[]⟩ : ByteArray))
      refine one_ (i := 8) (N := none) #[true, true, true, true, true, true, true, true, true, false] rfl rfl (one_of rfl (by kernel_rfl)) (by decide) (fun K hK => ?_)
      refine skip_ (w1 := (U.setCell ⟨p, 0, none⟩ (.int .u64 X)).setCell ⟨p, 1, none⟩ (.string (⟨#[]⟩ : ByteArray))) (by rfl) rfl (by go_simp) ?_
      have hbV0 := below_set (j := 1) (v := .string (⟨#[]⟩ : ByteArray)) (below_set (j := 0) (v := .int .u64 X) hbU g0) g0
      have a1 := (yy _ (fun h => ne h.symm)).trans z1
      refine hK.out _ _ (two BN.out hbV0) (fun hS => ?_)
      clear hS hK K c0 c1 f0 f1 c2 f2 yy z0 hbU z1
      obtain ⟨V0, hV⟩ : ∃ V, (U.setCell ⟨p, 0, none⟩ (.int .u64 X)).setCell ⟨p, 1, none⟩ (.string (⟨#[]⟩ : ByteArray)) = V := ⟨_, rfl⟩
      rw [hV] at y_p hbV0 a1 ⊢
      clear hV U
      obtain ⟨c0, c1, f0, f1, c2, f2⟩ := put_facts a1 (.int .u64 Y)
      obtain ⟨y_q, yy⟩ := put_cell a1 (.int .u64 Y) (.string (⟨#[]⟩ : ByteArray))
      refine one_ (i := 9) (N := none) #[true, true, true, true, true, true, true, true, true, true] rfl rfl (one_of rfl (by kernel_rfl)) (by decide) (fun K hK => ?_)
      refine skip_ (w1 := (V0.setCell ⟨q, 0, none⟩ (.int .u64 Y)).setCell ⟨q, 1, none⟩ (.string (⟨#[]⟩ : ByteArray))) (by rfl) rfl (by go_simp) ?_
      have hbV1 := below_set (j := 1) (v := .string (⟨#[]⟩ : ByteArray)) (below_set (j := 0) (v := .int .u64 Y) hbV0 g1) g1
      have b0 := (yy _ ne).trans y_p
      refine hK.out _ _ (two BN.out hbV1) (fun hS => ?_)
      clear hS hK K c0 c1 f0 f1 c2 f2 yy a1 hbV0 y_p
      obtain ⟨V1, hV⟩ : ∃ V, (V0.setCell ⟨q, 0, none⟩ (.int .u64 Y)).setCell ⟨q, 1, none⟩ (.string (⟨#[]⟩ : ByteArray)) = V := ⟨_, rfl⟩
      rw [hV] at y_q hbV1 b0 ⊢
      clear hV V0
      refine done_ (done_of rfl (by kernel_rfl)) ?_
      have BP := Aside0.mk b0
      have BQ := Aside0.mk y_q
      replace HB := Aside0.mk (below_step HB.out hbV1)
      replace BN := Aside0.mk ((hbV1.block _ (blk_lt BN.out)).trans BN.out)
      clear b0 y_q hbV1 ne g0 g1 hHeld V HIX HIY
      go_wp2_with fail
      replace BP := Aside0.mk (show V1.drew.heap[p]? = some (.cells #[.int .u64 X, .string ⟨#[]⟩] 24 (0, 0)) from BP.out)
      replace BQ := Aside0.mk (show V1.drew.heap[q]? = some (.cells #[.int .u64 Y, .string ⟨#[]⟩] 24 (0, 0)) from BQ.out)
      replace BN := Aside0.mk (show V1.drew.heap[w.heap.size + 1]? = some (.cells #[.int .i64 x, .int .i64 y] 36 (0, 0)) from BN.out)
      replace HB := Aside0.mk (below_drew1 HB.out)
      obtain ⟨e1, e2⟩ := E12.out
      refine start_ (n := 40) (S := fun w' => (w'.cell? ⟨p, 0, none⟩ = some (.int .u64 X) ∧ w'.cell? ⟨p, 1, none⟩ = some (.string ⟨#[]⟩)) ∧ (w'.cell? ⟨q, 0, none⟩ = some (.int .u64 Y) ∧ w'.cell? ⟨q, 1, none⟩ = some (.string ⟨#[]⟩)) ∧ Two (w.heap.size + 1) x y w') (ds := []) #[false, false, false, false, false, false, false, false, false, false, false, false, false, false, false, false, false, false, false, false, false, false, false, false, false, false, false, false, false, false, false, false, false, false, false, false, false, false, false, false] (by kernel_rfl) rfl rfl (s3 BP.out BQ.out BN.out (Below.refl _ _)) (fun hHeld => ?_)
      generalize V1.drew = T0 at *
      clear V1
      refine one_ (i := 0) (N := some 78) #[true, false, false, false, false, false, false, false, false, false, false, false, false, false, false, false, false, false, false, false, false, false, false, false, false, false, false, false, false, false, false, false, false, false, false, false, false, false, false, false] rfl rfl (one_of rfl (by kernel_rfl)) (by decide) (fun K hK => ?_)
      refine goes_ Tryz.func18 (by kernel_rfl) rfl #[] (by rfl) rfl rfl (by first | rfl | (simp only [map_toArray, map_nil]; done) | ((try simp only [map_toArray, map_cons, map_nil]); rfl)) ?_
      refine (HAL.out _ (below_step HB.out (Below.refl _ _))).mono ?_
      rintro e w2 ⟨rfl, hb⟩
      refine ⟨_, rfl, ?_⟩
      have m1 := below_step (Below.refl _ _) hb
      refine hK.out _ _ (s3 BP.out BQ.out BN.out m1) (fun hHeld => ?_)
      clear hK K
      refine norm_ (a' := ?_) ?_ ?_
      rotate_left
      · show Act.put _ (some 78) _ = _
        simp only [Act.put, setIfInBounds_toArray, set_cons_zero, set_cons_succ, i64_w, i32_w]
        rfl
      clear hb
      refine pure_ (i := 1) (N := some 79) (v := ?_) (a' := ?_) #[true, true, false, false, false, false, false, false, false, false, false, false, false, false, false, false, false, false, false, false, false, false, false, false, false, false, false, false, false, false, false, false, false, false, false, false, false, false, false, false] rfl rfl (any_of rfl (by kernel_rfl)) (fun _ _ _ h => h) (Or.inl ⟨by rfl, ?_⟩) ?_ ?_
      rotate_left
      · intro w'
        go_simp
        with_reducible rfl
      rotate_left
      · simp only [Act.put, setIfInBounds_toArray, set_cons_zero, set_cons_succ, i64_w, i32_w]
        rfl
      refine take_ (i := 2) (N := some 80) (v := ?_) (a' := ?_) #[true, true, true, false, false, false, false, false, false, false, false, false, false, false, false, false, false, false, false, false, false, false, false, false, false, false, false, false, false, false, false, false, false, false, false, false, false, false, false, false] rfl rfl (take_of rfl (by kernel_rfl)) (fun _ _ _ h => h) (Or.inl ⟨by rfl, ?_⟩) hHeld ?_ ?_
      rotate_left
      · rintro w' ⟨⟨q0, q1⟩, ⟨q2, q3⟩, q4, q5⟩
        go_simp
        with_reducible rfl
      rotate_left
      · simp only [Act.put, setIfInBounds_toArray, set_cons_zero, set_cons_succ, i64_w, i32_w]
        rfl
      refine take_ (i := 4) (N := some 82) (v := ?_) (a' := ?_) #[true, true, true, false, true, false, false, false, false, false, false, false, false, false, false, false, false, false, false, false, false, false, false, false, false, false, false, false, false, false, false, false, false, false, false, false, false, false, false, false] rfl rfl (take_of rfl (by kernel_rfl)) (fun _ _ _ h => h) (Or.inl ⟨by rfl, ?_⟩) hHeld ?_ ?_
      rotate_left
      · rintro w' ⟨⟨q0, q1⟩, ⟨q2, q3⟩, q4, q5⟩
        go_simp
        with_reducible rfl
      rotate_left
      · simp only [Act.put, setIfInBounds_toArray, set_cons_zero, set_cons_succ, i64_w, i32_w]
        rfl
      refine take_ (i := 5) (N := some 83) (v := ?_) (a' := ?_) #[true, true, true, false, true, true, false, false, false, false, false, false, false, false, false, false, false, false, false, false, false, false, false, false, false, false, false, false, false, false, false, false, false, false, false, false, false, false, false, false] rfl rfl (take_of rfl (by kernel_rfl)) (fun _ _ _ h => h) (Or.inl ⟨by rfl, ?_⟩) hHeld ?_ ?_
      rotate_left
      · rintro w' ⟨⟨q0, q1⟩, ⟨q2, q3⟩, q4, q5⟩
        go_simp
        with_reducible rfl
      rotate_left
      · simp only [Act.put, setIfInBounds_toArray, set_cons_zero, set_cons_succ, i64_w, i32_w]
        rfl
      refine one_ (i := 3) (N := some 81) #[true, true, true, true, true, true, false, false, false, false, false, false, false, false, false, false, false, false, false, false, false, false, false, false, false, false, false, false, false, false, false, false, false, false, false, false, false, false, false, false] rfl rfl (one_of rfl (by kernel_rfl)) (by decide) (fun K hK => ?_)
      refine goes_ Tryz.func26 (by kernel_rfl) rfl #[.agg #[.int .u64 X, .string ⟨#[]⟩]] (by rfl) rfl rfl (by first | rfl | (simp only [map_toArray, map_nil]; done) | ((try simp only [map_toArray, map_cons, map_nil]); rfl)) ?_
      refine (HSX.out _).mono ?_
      rintro e w2 ⟨rfl, hb⟩
      refine ⟨_, rfl, ?_⟩
      have m2 := below_step m1 hb
      refine hK.out _ _ (s3 BP.out BQ.out BN.out m2) (fun hHeld => ?_)
      clear hK K
      refine norm_ (a' := ?_) ?_ ?_
      rotate_left
      · show Act.put _ (some 81) _ = _
        simp only [Act.put, setIfInBounds_toArray, set_cons_zero, set_cons_succ, i64_w, i32_w]
        rfl
      clear hb m1
      refine pure_ (i := 6) (N := some 84) (v := ?_) (a' := ?_) #[true, true, true, true, true, true, true, false, false, false, false, false, false, false, false, false, false, false, false, false, false, false, false, false, false, false, false, false, false, false, false, false, false, false, false, false, false, false, false, false] rfl rfl (any_of rfl (by kernel_rfl)) (fun _ _ _ h => h) (Or.inl ⟨by rfl, ?_⟩) ?_ ?_
      rotate_left
      · intro w'
        go_simp
        with_reducible rfl
      rotate_left
      · simp only [Act.put, setIfInBounds_toArray, set_cons_zero, set_cons_succ, i64_w, i32_w]
        rfl
      refine pure_ (i := 7) (N := some 85) (v := ?_) (a' := ?_) #[true, true, true, true, true, true, true, true, false, false, false, false, false, false, false, false, false, false, false, false, false, false, false, false, false, false, false, false, false, false, false, false, false, false, false, false, false, false, false, false] rfl rfl (any_of rfl (by kernel_rfl)) (fun _ _ _ h => h) (Or.inl ⟨by rfl, ?_⟩) ?_ ?_
      rotate_left
      · intro w'
        go_simp
        with_reducible rfl
      rotate_left
      · simp only [Act.put, setIfInBounds_toArray, set_cons_zero, set_cons_succ, i64_w, i32_w]
        rfl
      refine pure_ (i := 8) (N := some 86) (v := ?_) (a' := ?_) #[true, true, true, true, true, true, true, true, true, false, false, false, false, false, false, false, false, false, false, false, false, false, false, false, false, false, false, false, false, false, false, false, false, false, false, false, false, false, false, false] rfl rfl (any_of rfl (by kernel_rfl)) (fun _ _ _ h => h) (Or.inl ⟨by rfl, ?_⟩) ?_ ?_
      rotate_left
      · intro w'
        go_simp
        with_reducible rfl
      rotate_left
      · simp only [Act.put, setIfInBounds_toArray, set_cons_zero, set_cons_succ, i64_w, i32_w]
        rfl
      refine take_ (i := 9) (N := some 87) (v := ?_) (a' := ?_) #[true, true, true, true, true, true, true, true, true, true, false, false, false, false, false, false, false, false, false, false, false, false, false, false, false, false, false, false, false, false, false, false, false, false, false, false, false, false, false, false] rfl rfl (take_of rfl (by kernel_rfl)) (fun _ _ _ h => h) (Or.inl ⟨by rfl, ?_⟩) hHeld ?_ ?_
      rotate_left
      · rintro w' ⟨⟨q0, q1⟩, ⟨q2, q3⟩, q4, q5⟩
        go_simp
        with_reducible rfl
      rotate_left
      · simp only [Act.put, setIfInBounds_toArray, set_cons_zero, set_cons_succ, i64_w, i32_w]
        rfl
      refine take_ (i := 11) (N := some 89) (v := ?_) (a' := ?_) #[true, true, true, true, true, true, true, true, true, true, false, true, false, false, false, false, false, false, false, false, false, false, false, false, false, false, false, false, false, false, false, false, false, false, false, false, false, false, false, false] rfl rfl (take_of rfl (by kernel_rfl)) (fun _ _ _ h => h) (Or.inl ⟨by rfl, ?_⟩) hHeld ?_ ?_
      rotate_left
      · rintro w' ⟨⟨q0, q1⟩, ⟨q2, q3⟩, q4, q5⟩
        go_simp
        with_reducible rfl
      rotate_left
      · simp only [Act.put, setIfInBounds_toArray, set_cons_zero, set_cons_succ, i64_w, i32_w]
        rfl
      refine take_ (i := 12) (N := some 90) (v := ?_) (a' := ?_) #[true, true, true, true, true, true, true, true, true, true, false, true, true, false, false, false, false, false, false, false, false, false, false, false, false, false, false, false, false, false, false, false, false, false, false, false, false, false, false, false] rfl rfl (take_of rfl (by kernel_rfl)) (fun _ _ _ h => h) (Or.inl ⟨by rfl, ?_⟩) hHeld ?_ ?_
      rotate_left
      · rintro w' ⟨⟨q0, q1⟩, ⟨q2, q3⟩, q4, q5⟩
        go_simp
        with_reducible rfl
      rotate_left
      · simp only [Act.put, setIfInBounds_toArray, set_cons_zero, set_cons_succ, i64_w, i32_w]
        rfl
      refine one_ (i := 10) (N := some 88) #[true, true, true, true, true, true, true, true, true, true, true, true, true, false, false, false, false, false, false, false, false, false, false, false, false, false, false, false, false, false, false, false, false, false, false, false, false, false, false, false] rfl rfl (one_of rfl (by kernel_rfl)) (by decide) (fun K hK => ?_)
      refine goes_ Tryz.func26 (by kernel_rfl) rfl #[.agg #[.int .u64 Y, .string ⟨#[]⟩]] (by rfl) rfl rfl (by first | rfl | (simp only [map_toArray, map_nil]; done) | ((try simp only [map_toArray, map_cons, map_nil]); rfl)) ?_
      refine (HSY.out _).mono ?_
      rintro e w2 ⟨rfl, hb⟩
      refine ⟨_, rfl, ?_⟩
      have m3 := below_step m2 hb
      refine hK.out _ _ (s3 BP.out BQ.out BN.out m3) (fun hHeld => ?_)
      clear hK K
      refine norm_ (a' := ?_) ?_ ?_
      rotate_left
      · show Act.put _ (some 88) _ = _
        simp only [Act.put, setIfInBounds_toArray, set_cons_zero, set_cons_succ, i64_w, i32_w]
        rfl
      clear hb m2
      refine pure_ (i := 13) (N := some 91) (v := ?_) (a' := ?_) #[true, true, true, true, true, true, true, true, true, true, true, true, true, true, false, false, false, false, false, false, false, false, false, false, false, false, false, false, false, false, false, false, false, false, false, false, false, false, false, false] rfl rfl (any_of rfl (by kernel_rfl)) (fun _ _ _ h => h) (Or.inl ⟨by rfl, ?_⟩) ?_ ?_
      rotate_left
      · intro w'
        go_simp
        with_reducible rfl
      rotate_left
      · simp only [Act.put, setIfInBounds_toArray, set_cons_zero, set_cons_succ, i64_w, i32_w]
        rfl
      refine pure_ (i := 14) (N := some 92) (v := ?_) (a' := ?_) #[true, true, true, true, true, true, true, true, true, true, true, true, true, true, true, false, false, false, false, false, false, false, false, false, false, false, false, false, false, false, false, false, false, false, false, false, false, false, false, false] rfl rfl (any_of rfl (by kernel_rfl)) (fun _ _ _ h => h) (Or.inl ⟨by rfl, ?_⟩) ?_ ?_
      rotate_left
      · intro w'
        go_simp
        with_reducible rfl
      rotate_left
      · simp only [Act.put, setIfInBounds_toArray, set_cons_zero, set_cons_succ, i64_w, i32_w]
        rfl
      refine pure_ (i := 15) (N := some 93) (v := ?_) (a' := ?_) #[true, true, true, true, true, true, true, true, true, true, true, true, true, true, true, true, false, false, false, false, false, false, false, false, false, false, false, false, false, false, false, false, false, false, false, false, false, false, false, false] rfl rfl (any_of rfl (by kernel_rfl)) (fun _ _ _ h => h) (Or.inl ⟨by rfl, ?_⟩) ?_ ?_
      rotate_left
      · intro w'
        go_simp
        with_reducible rfl
      rotate_left
      · simp only [Act.put, setIfInBounds_toArray, set_cons_zero, set_cons_succ, i64_w, i32_w]
        rfl
      refine take_ (i := 16) (N := some 94) (v := ?_) (a' := ?_) #[true, true, true, true, true, true, true, true, true, true, true, true, true, true, true, true, true, false, false, false, false, false, false, false, false, false, false, false, false, false, false, false, false, false, false, false, false, false, false, false] rfl rfl (take_of rfl (by kernel_rfl)) (fun _ _ _ h => h) (Or.inl ⟨by rfl, ?_⟩) hHeld ?_ ?_
      rotate_left
      · rintro w' ⟨⟨q0, q1⟩, ⟨q2, q3⟩, q4, q5⟩
        go_simp
        with_reducible rfl
      rotate_left
      · simp only [Act.put, setIfInBounds_toArray, set_cons_zero, set_cons_succ, i64_w, i32_w]
        rfl
      refine take_ (i := 17) (N := some 95) (v := ?_) (a' := ?_) #[true, true, true, true, true, true, true, true, true, true, true, true, true, true, true, true, true, true, false, false, false, false, false, false, false, false, false, false, false, false, false, false, false, false, false, false, false, false, false, false] rfl rfl (take_of rfl (by kernel_rfl)) (fun _ _ _ h => h) (Or.inl ⟨by rfl, ?_⟩) hHeld ?_ ?_
      rotate_left
      · rintro w' ⟨⟨q0, q1⟩, ⟨q2, q3⟩, q4, q5⟩
        go_simp
        with_reducible rfl
      rotate_left
      · simp only [Act.put, setIfInBounds_toArray, set_cons_zero, set_cons_succ, i64_w, i32_w]
        rfl
      refine take_ (i := 20) (N := some 98) (v := ?_) (a' := ?_) #[true, true, true, true, true, true, true, true, true, true, true, true, true, true, true, true, true, true, false, false, true, false, false, false, false, false, false, false, false, false, false, false, false, false, false, false, false, false, false, false] rfl rfl (take_of rfl (by kernel_rfl)) (fun _ _ _ h => h) (Or.inl ⟨by rfl, ?_⟩) hHeld ?_ ?_
      rotate_left
      · rintro w' ⟨⟨q0, q1⟩, ⟨q2, q3⟩, q4, q5⟩
        go_simp
        with_reducible rfl
      rotate_left
      · simp only [Act.put, setIfInBounds_toArray, set_cons_zero, set_cons_succ, i64_w, i32_w]
        rfl
      refine take_ (i := 21) (N := some 99) (v := ?_) (a' := ?_) #[true, true, true, true, true, true, true, true, true, true, true, true, true, true, true, true, true, true, false, false, true, true, false, false, false, false, false, false, false, false, false, false, false, false, false, false, false, false, false, false] rfl rfl (take_of rfl (by kernel_rfl)) (fun _ _ _ h => h) (Or.inl ⟨by rfl, ?_⟩) hHeld ?_ ?_
      rotate_left
      · rintro w' ⟨⟨q0, q1⟩, ⟨q2, q3⟩, q4, q5⟩
        go_simp
        with_reducible rfl
      rotate_left
      · simp only [Act.put, setIfInBounds_toArray, set_cons_zero, set_cons_succ, i64_w, i32_w]
        rfl
      refine take_ (i := 22) (N := some 100) (v := ?_) (a' := ?_) #[true, true, true, true, true, true, true, true, true, true, true, true, true, true, true, true, true, true, false, false, true, true, true, false, false, false, false, false, false, false, false, false, false, false, false, false, false, false, false, false] rfl rfl (take_of rfl (by kernel_rfl)) (fun _ _ _ h => h) (Or.inl ⟨by rfl, ?_⟩) hHeld ?_ ?_
      rotate_left
      · rintro w' ⟨⟨q0, q1⟩, ⟨q2, q3⟩, q4, q5⟩
        go_simp
        with_reducible rfl
      rotate_left
      · simp only [Act.put, setIfInBounds_toArray, set_cons_zero, set_cons_succ, i64_w, i32_w]
        rfl
      refine take_ (i := 23) (N := some 101) (v := ?_) (a' := ?_) #[true, true, true, true, true, true, true, true, true, true, true, true, true, true, true, true, true, true, false, false, true, true, true, true, false, false, false, false, false, false, false, false, false, false, false, false, false, false, false, false] rfl rfl (take_of rfl (by kernel_rfl)) (fun _ _ _ h => h) (Or.inl ⟨by rfl, ?_⟩) hHeld ?_ ?_
      rotate_left
      · rintro w' ⟨⟨q0, q1⟩, ⟨q2, q3⟩, q4, q5⟩
        go_simp
        with_reducible rfl
      rotate_left
      · simp only [Act.put, setIfInBounds_toArray, set_cons_zero, set_cons_succ, i64_w, i32_w]
        rfl
      refine pure_ (i := 24) (N := some 102) (v := ?_) (a' := ?_) #[true, true, true, true, true, true, true, true, true, true, true, true, true, true, true, true, true, true, false, false, true, true, true, true, true, false, false, false, false, false, false, false, false, false, false, false, false, false, false, false] rfl rfl (any_of rfl (by kernel_rfl)) (fun _ _ _ h => h) (Or.inl ⟨by rfl, ?_⟩) ?_ ?_
      rotate_left
      · intro w'
        go_simp
        with_reducible rfl
      rotate_left
      · simp only [Act.put, setIfInBounds_toArray, set_cons_zero, set_cons_succ, i64_w, i32_w]
        rfl
      refine one_ (i := 18) (N := some 96) #[true, true, true, true, true, true, true, true, true, true, true, true, true, true, true, true, true, true, true, false, true, true, true, true, true, false, false, false, false, false, false, false, false, false, false, false, false, false, false, false] rfl rfl (one_of rfl (by kernel_rfl)) (by decide) (fun K hK => ?_)
      refine goes_ Tryz.func27 (by kernel_rfl) rfl #[.int .i64 0, .agg #[.int .u64 X, .string ⟨#[]⟩], .agg #[.int .u64 Y, .string ⟨#[]⟩]] (by rfl) rfl rfl (by first | rfl | (simp only [map_toArray, map_nil]; done) | ((try simp only [map_toArray, map_cons, map_nil]); rfl)) ?_
      refine (H0.out _ (below_step HB.out m3)).mono ?_
      rintro e w2 ⟨rfl, hb⟩
      refine ⟨_, rfl, ?_⟩
      have m4 := below_step m3 hb
      refine hK.out _ _ (s3 BP.out BQ.out BN.out m4) (fun hHeld => ?_)
      clear hK K
      refine norm_ (a' := ?_) ?_ ?_
      rotate_left
      · show Act.put _ (some 96) _ = _
        simp only [Act.put, setIfInBounds_toArray, set_cons_zero, set_cons_succ, i64_w, i32_w]
        rfl
      clear hb m3
      refine pure_ (i := 19) (N := some 97) (v := ?_) (a' := ?_) #[true, true, true, true, true, true, true, true, true, true, true, true, true, true, true, true, true, true, true, true, true, true, true, true, true, false, false, false, false, false, false, false, false, false, false, false, false, false, false, false] rfl rfl (any_of rfl (by kernel_rfl)) (fun _ _ _ h => h) (Or.inl ⟨by rfl, ?_⟩) ?_ ?_
      rotate_left
      · intro w'
        go_simp
        with_reducible rfl
      rotate_left
      · simp only [Act.put, setIfInBounds_toArray, set_cons_zero, set_cons_succ, i64_w, i32_w]
        rfl
      refine pure_ (i := 25) (N := some 103) (v := ?_) (a' := ?_) #[true, true, true, true, true, true, true, true, true, true, true, true, true, true, true, true, true, true, true, true, true, true, true, true, true, true, false, false, false, false, false, false, false, false, false, false, false, false, false, false] rfl rfl (any_of rfl (by kernel_rfl)) (fun _ _ _ h => h) (Or.inl ⟨by rfl, ?_⟩) ?_ ?_
      rotate_left
      · intro w'
        go_simp
        with_reducible rfl
      rotate_left
      · simp only [Act.put, setIfInBounds_toArray, set_cons_zero, set_cons_succ, i64_w, i32_w]
        rfl
      refine pure_ (i := 26) (N := some 104) (v := ?_) (a' := ?_) #[true, true, true, true, true, true, true, true, true, true, true, true, true, true, true, true, true, true, true, true, true, true, true, true, true, true, true, false, false, false, false, false, false, false, false, false, false, false, false, false] rfl rfl (any_of rfl (by kernel_rfl)) (fun _ _ _ h => h) (Or.inl ⟨by rfl, ?_⟩) ?_ ?_
      rotate_left
      · intro w'
        go_simp
        with_reducible rfl
      rotate_left
      · simp only [Act.put, setIfInBounds_toArray, set_cons_zero, set_cons_succ, i64_w, i32_w]
        rfl
      refine pure_ (i := 27) (N := some 105) (v := ?_) (a' := ?_) #[true, true, true, true, true, true, true, true, true, true, true, true, true, true, true, true, true, true, true, true, true, true, true, true, true, true, true, true, false, false, false, false, false, false, false, false, false, false, false, false] rfl rfl (any_of rfl (by kernel_rfl)) (fun _ _ _ h => h) (Or.inl ⟨by rfl, ?_⟩) ?_ ?_
      rotate_left
      · intro w'
        go_simp
        with_reducible rfl
      rotate_left
      · simp only [Act.put, setIfInBounds_toArray, set_cons_zero, set_cons_succ, i64_w, i32_w]
        rfl
      refine take_ (i := 28) (N := some 106) (v := ?_) (a' := ?_) #[true, true, true, true, true, true, true, true, true, true, true, true, true, true, true, true, true, true, true, true, true, true, true, true, true, true, true, true, true, false, false, false, false, false, false, false, false, false, false, false] rfl rfl (take_of rfl (by kernel_rfl)) (fun _ _ _ h => h) (Or.inl ⟨by rfl, ?_⟩) hHeld ?_ ?_
      rotate_left
      · rintro w' ⟨⟨q0, q1⟩, ⟨q2, q3⟩, q4, q5⟩
        go_simp
        with_reducible rfl
      rotate_left
      · simp only [Act.put, setIfInBounds_toArray, set_cons_zero, set_cons_succ, i64_w, i32_w]
        rfl
      refine take_ (i := 29) (N := some 107) (v := ?_) (a' := ?_) #[true, true, true, true, true, true, true, true, true, true, true, true, true, true, true, true, true, true, true, true, true, true, true, true, true, true, true, true, true, true, false, false, false, false, false, false, false, false, false, false] rfl rfl (take_of rfl (by kernel_rfl)) (fun _ _ _ h => h) (Or.inl ⟨by rfl, ?_⟩) hHeld ?_ ?_
      rotate_left
      · rintro w' ⟨⟨q0, q1⟩, ⟨q2, q3⟩, q4, q5⟩
        go_simp
        with_reducible rfl
      rotate_left
      · simp only [Act.put, setIfInBounds_toArray, set_cons_zero, set_cons_succ, i64_w, i32_w]
        rfl
      refine take_ (i := 32) (N := some 110) (v := ?_) (a' := ?_) #[true, true, true, true, true, true, true, true, true, true, true, true, true, true, true, true, true, true, true, true, true, true, true, true, true, true, true, true, true, true, false, false, true, false, false, false, false, false, false, false] rfl rfl (take_of rfl (by kernel_rfl)) (fun _ _ _ h => h) (Or.inl ⟨by rfl, ?_⟩) hHeld ?_ ?_
      rotate_left
      · rintro w' ⟨⟨q0, q1⟩, ⟨q2, q3⟩, q4, q5⟩
        go_simp
        with_reducible rfl
      rotate_left
      · simp only [Act.put, setIfInBounds_toArray, set_cons_zero, set_cons_succ, i64_w, i32_w]
        rfl
      refine take_ (i := 33) (N := some 111) (v := ?_) (a' := ?_) #[true, true, true, true, true, true, true, true, true, true, true, true, true, true, true, true, true, true, true, true, true, true, true, true, true, true, true, true, true, true, false, false, true, true, false, false, false, false, false, false] rfl rfl (take_of rfl (by kernel_rfl)) (fun _ _ _ h => h) (Or.inl ⟨by rfl, ?_⟩) hHeld ?_ ?_
      rotate_left
      · rintro w' ⟨⟨q0, q1⟩, ⟨q2, q3⟩, q4, q5⟩
        go_simp
        with_reducible rfl
      rotate_left
      · simp only [Act.put, setIfInBounds_toArray, set_cons_zero, set_cons_succ, i64_w, i32_w]
        rfl
      refine take_ (i := 34) (N := some 112) (v := ?_) (a' := ?_) #[true, true, true, true, true, true, true, true, true, true, true, true, true, true, true, true, true, true, true, true, true, true, true, true, true, true, true, true, true, true, false, false, true, true, true, false, false, false, false, false] rfl rfl (take_of rfl (by kernel_rfl)) (fun _ _ _ h => h) (Or.inl ⟨by rfl, ?_⟩) hHeld ?_ ?_
      rotate_left
      · rintro w' ⟨⟨q0, q1⟩, ⟨q2, q3⟩, q4, q5⟩
        go_simp
        with_reducible rfl
      rotate_left
      · simp only [Act.put, setIfInBounds_toArray, set_cons_zero, set_cons_succ, i64_w, i32_w]
        rfl
      refine take_ (i := 35) (N := some 113) (v := ?_) (a' := ?_) #[true, true, true, true, true, true, true, true, true, true, true, true, true, true, true, true, true, true, true, true, true, true, true, true, true, true, true, true, true, true, false, false, true, true, true, true, false, false, false, false] rfl rfl (take_of rfl (by kernel_rfl)) (fun _ _ _ h => h) (Or.inl ⟨by rfl, ?_⟩) hHeld ?_ ?_
      rotate_left
      · rintro w' ⟨⟨q0, q1⟩, ⟨q2, q3⟩, q4, q5⟩
        go_simp
        with_reducible rfl
      rotate_left
      · simp only [Act.put, setIfInBounds_toArray, set_cons_zero, set_cons_succ, i64_w, i32_w]
        rfl
      refine pure_ (i := 36) (N := some 114) (v := ?_) (a' := ?_) #[true, true, true, true, true, true, true, true, true, true, true, true, true, true, true, true, true, true, true, true, true, true, true, true, true, true, true, true, true, true, false, false, true, true, true, true, true, false, false, false] rfl rfl (any_of rfl (by kernel_rfl)) (fun _ _ _ h => h) (Or.inl ⟨by rfl, ?_⟩) ?_ ?_
      rotate_left
      · intro w'
        go_simp
        with_reducible rfl
      rotate_left
      · simp only [Act.put, setIfInBounds_toArray, set_cons_zero, set_cons_succ, i64_w, i32_w]
        rfl
      refine one_ (i := 30) (N := some 108) #[true, true, true, true, true, true, true, true, true, true, true, true, true, true, true, true, true, true, true, true, true, true, true, true, true, true, true, true, true, true, true, false, true, true, true, true, true, false, false, false] rfl rfl (one_of rfl (by kernel_rfl)) (by decide) (fun K hK => ?_)
      refine goes_ Tryz.func27 (by kernel_rfl) rfl #[.int .i64 0, .agg #[.int .u64 X, .string ⟨#[]⟩], .agg #[.int .u64 Y, .string ⟨#[]⟩]] (by rfl) rfl rfl (by first | rfl | (simp only [map_toArray, map_nil]; done) | ((try simp only [map_toArray, map_cons, map_nil]); rfl)) ?_
      refine (H0.out _ (below_step HB.out m4)).mono ?_
      rintro e w2 ⟨rfl, hb⟩
      refine ⟨_, rfl, ?_⟩
      have m5 := below_step m4 hb
      refine hK.out _ _ (s3 BP.out BQ.out BN.out m5) (fun hHeld => ?_)
      clear hK K
      refine norm_ (a' := ?_) ?_ ?_
      rotate_left
      · show Act.put _ (some 108) _ = _
        simp only [Act.put, setIfInBounds_toArray, set_cons_zero, set_cons_succ, i64_w, i32_w]
        rfl
      clear hb m4
      refine pure_ (i := 31) (N := some 109) (v := ?_) (a' := ?_) #[true, true, true, true, true, true, true, true, true, true, true, true, true, true, true, true, true, true, true, true, true, true, true, true, true, true, true, true, true, true, true, true, true, true, true, true, true, false, false, false] rfl rfl (any_of rfl (by kernel_rfl)) (fun _ _ _ h => h) (Or.inl ⟨by rfl, ?_⟩) ?_ ?_
      rotate_left
      · intro w'
        go_simp
        with_reducible rfl
      rotate_left
      · simp only [Act.put, setIfInBounds_toArray, set_cons_zero, set_cons_succ, i64_w, i32_w]
        rfl
      refine pure_ (i := 37) (N := some 115) (v := ?_) (a' := ?_) #[true, true, true, true, true, true, true, true, true, true, true, true, true, true, true, true, true, true, true, true, true, true, true, true, true, true, true, true, true, true, true, true, true, true, true, true, true, true, false, false] rfl rfl (any_of rfl (by kernel_rfl)) (fun _ _ _ h => h) (Or.inl ⟨by rfl, ?_⟩) ?_ ?_
      rotate_left
      · intro w'
        go_simp
        with_reducible rfl
      rotate_left
      · simp only [Act.put, setIfInBounds_toArray, set_cons_zero, set_cons_succ, i64_w, i32_w]
        rfl
      refine pure_ (i := 38) (N := some 116) (v := ?_) (a' := ?_) #[true, true, true, true, true, true, true, true, true, true, true, true, true, true, true, true, true, true, true, true, true, true, true, true, true, true, true, true, true, true, true, true, true, true, true, true, true, true, true, false] rfl rfl (any_of rfl (by kernel_rfl)) (fun _ _ _ h => h) (Or.inl ⟨by rfl, ?_⟩) ?_ ?_
      rotate_left
      · intro w'
        go_simp
        with_reducible rfl
      rotate_left
      · simp only [Act.put, setIfInBounds_toArray, set_cons_zero, set_cons_succ, i64_w, i32_w]
        rfl
      refine pure_ (i := 39) (N := some 6) (v := ?_) (a' := ?_) #[true, true, true, true, true, true, true, true, true, true, true, true, true, true, true, true, true, true, true, true, true, true, true, true, true, true, true, true, true, true, true, true, true, true, true, true, true, true, true, true] rfl rfl (any_of rfl (by kernel_rfl)) (fun _ _ _ h => h) (Or.inl ⟨by rfl, ?_⟩) ?_ ?_
      rotate_left
      · intro w'
        go_simp
        with_reducible rfl
      rotate_left
      · simp only [Act.put, setIfInBounds_toArray, set_cons_zero, set_cons_succ, i64_w, i32_w]
        rfl
      refine done_ (done_of rfl (by kernel_rfl)) ?_
      have hfin := below_step HB.out m5
      go_wp2_with fail
      go_ret
      exact ⟨rfl, hfin⟩
  · obtain ⟨q, hq⟩ : ∃ q, chk k m s = q := ⟨_, rfl⟩
    rw [hq] at HTX hch
    rw [if_neg hch] at HTX
    have t3 : (q == 0) = false := beq_eq_false_iff_ne.mpr hch
    clear hq hch
    go_enter Tryz.func4, Tryz.ntmps4
    go_wp2_with fail
    clear c0 c1
    obtain ⟨W3, hW3⟩ : ∃ W3, (w.alloc (.cells #[.int .u64 m, .string s] 24)).alloc (.cells #[.int .i64 x, .int .i64 y] 36) = W3 := ⟨_, rfl⟩
    have HB := Aside0.mk (show Below w.heap.size w W3 from by rw [← hW3]; exact HBW.out)
    have BC := Aside0.mk (show W3.heap[w.heap.size]? = some (.cells #[.int .u64 m, .string s] 24 (0, 0)) from by rw [← hW3]; exact HX0.out)
    have BN := Aside0.mk (show W3.heap[w.heap.size + 1]? = some (.cells #[.int .i64 x, .int .i64 y] 36 (0, 0)) from by rw [← hW3]; exact HX1.out)
    rw [hW3]
    clear hW3 HX0 HX1 HBW
    refine (HTX.out _ HB.out).mono ?_
    rintro e w4 ⟨rfl, hb⟩
    replace BC := Aside0.mk (blk_below BC.out hb)
    replace BN := Aside0.mk (blk_below BN.out hb)
    replace HB := Aside0.mk (below_step HB.out hb)
    clear hb
    by_cases her : er = 0
    · subst her
      obtain ⟨hs1, hs2, hn⟩ := tx_crd hcr
      have hts := chk_size hs2
      have HTN := Aside0.mk (fun (W : World) (hb : Below w.heap.size w W) => text_calls k n t hn (by omega) W (hT.below hb) (hBt.below hb) (hU.below hb))
      have HCN := Aside0.mk (fun (W : World) (hb : Below w.heap.size w W) => check_calls k n t W (by omega) (hU.below hb))
      rw [hs2, if_pos rfl, show ctx k n t = s from by unfold ctx; rw [hs1]] at HTN
      rw [hs2] at HCN
      clear hs1 hs2 hn hts hcr hls hm hT hBt hU hE
      go_wp2_with fail
      refine (HRD.out _ HB.out).mono ?_
      rintro e w6 ⟨rfl, hb⟩
      replace BC := Aside0.mk (blk_below BC.out hb)
      replace BN := Aside0.mk (blk_below BN.out hb)
      replace HB := Aside0.mk (below_step HB.out hb)
      clear hb
      go_wp2_with (first | ((with_reducible refine gate_dst (N := 12) rfl ?_); refine box_event ?hg (N := 12) ?hd (cs := #[.int .u64 0, .string (⟨#[]⟩ : ByteArray)]) (t := 24) ?hr ?_; (case hd => rfl); (case hg => rfl); (case hr => first | (go_simp; done) | (go_simp; rfl)); intro g hg wb hbox hb; have hpc := blk_lt BC.out; have hpn := blk_lt BN.out; replace HB := Aside0.mk (below_step HB.out hb); replace BC := Aside0.mk (blk_below BC.out hb); replace BN := Aside0.mk (blk_below BN.out hb); have BG := Aside0.mk hbox; have HG := Aside0.mk (show w.heap.size ≤ g from by omega); have NE := Aside0.mk (show w.heap.size ≠ g ∧ w.heap.size + 1 ≠ g from ⟨by omega, by omega⟩); clear hpc hpn hb; obtain ⟨c0, c1, f0, f1, c2, f2⟩ := put_facts BG.out (.int .u64 0); clear hbox hg) | ((with_reducible refine gate_dst (N := 55) rfl ?_); obtain ⟨W', hW'⟩ : ∃ W, (wb.setCell ⟨g, 0, none⟩ (.int .u64 n)).setCell ⟨g, 1, none⟩ (.string t) = W := ⟨_, rfl⟩; rw [hW']; have pc := put_cell BG.out (.int .u64 n) (.string t); have hbs := below_set (j := 1) (v := .string t) (below_set (j := 0) (v := .int .u64 n) HB.out HG.out) HG.out; rw [hW'] at pc hbs; replace HB := Aside0.mk hbs; replace BG := Aside0.mk pc.1; replace BC := Aside0.mk ((pc.2 _ NE.out.1).trans BC.out); replace BN := Aside0.mk ((pc.2 _ NE.out.2).trans BN.out); clear pc hbs hW' c0 c1 f0 f1 c2 f2; have dG0 : W'.cell? ⟨g, 0, none⟩ = some (.int .u64 n) := (blk_cell BG.out 0).trans rfl; have dG1 : W'.cell? ⟨g, 1, none⟩ = some (.string t) := (blk_cell BG.out 1).trans rfl))
      refine (HTN.out _ HB.out).mono ?_
      rintro e w7 ⟨rfl, hb⟩
      clear dG0 dG1
      replace BG := Aside0.mk (blk_below BG.out hb)
      replace BN := Aside0.mk (blk_below BN.out hb)
      replace HB := Aside0.mk (below_step HB.out hb)
      clear hb
      have dG0 : w7.cell? ⟨g, 0, none⟩ = some (.int .u64 n) := (blk_cell BG.out 0).trans rfl
      have dG1 : w7.cell? ⟨g, 1, none⟩ = some (.string t) := (blk_cell BG.out 1).trans rfl
      go_wp2_with fail
      refine (HCN.out _ HB.out).mono ?_
      rintro e w8 ⟨rfl, hb⟩
      clear dG0 dG1
      replace BN := Aside0.mk (blk_below BN.out hb)
      replace HB := Aside0.mk (below_step HB.out hb)
      clear hb
      go_wp2_with fail
      replace BN := Aside0.mk (show w8.drew.heap[w.heap.size + 1]? = some (.cells #[.int .i64 x, .int .i64 y] 36 (0, 0)) from BN.out)
      replace HB := Aside0.mk (below_drew1 HB.out)
      refine start_ (n := 10) (S := Two (w.heap.size + 1) x y) (ds := []) #[false, false, false, false, false, false, false, false, false, false] (by kernel_rfl) rfl rfl (two BN.out (Below.refl _ _)) (fun hHeld => ?_)
      generalize w8.drew = V at *
      clear w8
      refine take_ (i := 0) (N := some 72) (v := ?_) (a' := ?_) #[true, false, false, false, false, false, false, false, false, false] rfl rfl (take_of rfl (by kernel_rfl)) (fun _ _ _ h => h) (Or.inl ⟨by rfl, ?_⟩) hHeld ?_ ?_
      rotate_left
      · rintro w' ⟨q0, q1⟩
        go_simp
        with_reducible rfl
      rotate_left
      · simp only [Act.put, setIfInBounds_toArray, set_cons_zero, set_cons_succ, i64_w, i32_w]
        rfl
      refine take_ (i := 3) (N := some 75) (v := ?_) (a' := ?_) #[true, false, false, true, false, false, false, false, false, false] rfl rfl (take_of rfl (by kernel_rfl)) (fun _ _ _ h => h) (Or.inl ⟨by rfl, ?_⟩) hHeld ?_ ?_
      rotate_left
      · rintro w' ⟨q0, q1⟩
        go_simp
        with_reducible rfl
      rotate_left
      · simp only [Act.put, setIfInBounds_toArray, set_cons_zero, set_cons_succ, i64_w, i32_w]
        rfl
      refine take_ (i := 1) (N := some 73) (v := ?_) (a' := ?_) #[true, true, false, true, false, false, false, false, false, false] rfl rfl (take_of rfl (by kernel_rfl)) (fun _ _ _ h => h) (Or.inl ⟨by rfl, ?_⟩) hHeld ?_ ?_
      rotate_left
      · rintro w' ⟨q0, q1⟩
        go_simp
        with_reducible rfl
      rotate_left
      · simp only [Act.put, setIfInBounds_toArray, set_cons_zero, set_cons_succ, i64_w, i32_w]
        rfl
      refine take_ (i := 4) (N := some 76) (v := ?_) (a' := ?_) #[true, true, false, true, true, false, false, false, false, false] rfl rfl (take_of rfl (by kernel_rfl)) (fun _ _ _ h => h) (Or.inl ⟨by rfl, ?_⟩) hHeld ?_ ?_
      rotate_left
      · rintro w' ⟨q0, q1⟩
        go_simp
        with_reducible rfl
      rotate_left
      · simp only [Act.put, setIfInBounds_toArray, set_cons_zero, set_cons_succ, i64_w, i32_w]
        rfl
      refine join_ (σ := Nat × Nat) 2 #[true, true, true, true, true, true, true, true, false, false] (fun s => [(74, .agg #[.int .u64 X, .string ⟨#[]⟩]), (77, .agg #[.int .u64 Y, .string ⟨#[]⟩]), (16, .pointer (some ⟨s.1, 0, none⟩)), (17, .pointer (some ⟨s.2, 0, none⟩))]) (fun s w' => Z2 V w' s.1 s.2) ?_ (fun hcont => ?_)
      rotate_left
      · refine three_ (i := 2) (j := 6) (k := 7) (Ni := some 74) (Nj := some 16) (Nk := some 17) #[true, true, true, true, true, false, false, false, false, false] #[true, true, false, true, true, false, true, false, false, false] #[true, true, false, true, true, false, false, true, false, false] rfl rfl rfl rfl rfl rfl (three_of rfl (by kernel_rfl)) (by decide) (by decide) (by decide) (fun K hK => ?_) (fun K hK => ?_) (fun K hK => ?_)
        · refine goes_ Tryz.func25 (by kernel_rfl) rfl #[.int .i64 x] (by rfl) rfl rfl (by (try simp only [map_toArray, map_cons, map_nil]); rfl) ?_
          refine (HIX.out _).mono ?_
          rintro e U0 ⟨rfl, hc⟩
          refine ⟨_, rfl, ?_⟩
          have hb0 := below_step (Below.refl V.heap.size V) hc
          refine hK.out _ _ (two BN.out hb0) (fun _ => ?_)
          clear hK K hc
          refine norm_ (a' := ?_) ?_ ?_
          rotate_left
          · show Act.put _ (some 74) _ = _
            simp only [Act.put, setIfInBounds_toArray, set_cons_zero, set_cons_succ, i64_w, i32_w]
            rfl
          refine three_ (i := 5) (j := 6) (k := 7) (Ni := some 77) (Nj := some 16) (Nk := some 17) #[true, true, true, true, true, true, false, false, false, false] #[true, true, true, true, true, false, true, false, false, false] #[true, true, true, true, true, false, false, true, false, false] rfl rfl rfl rfl rfl rfl (three_of rfl (by kernel_rfl)) (by decide) (by decide) (by decide) (fun K hK => ?_) (fun K hK => ?_) (fun K hK => ?_)
          · refine goes_ Tryz.func25 (by kernel_rfl) rfl #[.int .i64 y] (by rfl) rfl rfl (by (try simp only [map_toArray, map_cons, map_nil]); rfl) ?_
            refine (HIY.out _).mono ?_
            rintro e U1 ⟨rfl, hc⟩
            refine ⟨_, rfl, ?_⟩
            have hb1 := below_step hb0 hc
            refine hK.out _ _ (two BN.out hb1) (fun _ => ?_)
            clear hK K hc
            refine norm_ (a' := ?_) ?_ ?_
            rotate_left
            · show Act.put _ (some 77) _ = _
              simp only [Act.put, setIfInBounds_toArray, set_cons_zero, set_cons_succ, i64_w, i32_w]
              rfl
            refine two_ (i := 6) (j := 7) (Ni := some 16) (Nj := some 17) #[true, true, true, true, true, true, true, false, false, false] #[true, true, true, true, true, true, false, true, false, false] rfl rfl rfl rfl (two_of rfl (by kernel_rfl)) (by decide) (by decide) (fun K hK => ?_) (fun K hK => ?_)
            · refine value_ (v := .pointer (some ⟨U1.heap.size, 0, none⟩)) (w1 := U1.alloc zc) (by rfl) rfl (by go_simp) ?_
              have z6 := heap_alloc_new U1 zc
              have g6 := hb1.size
              have hb2 := below_alloc hb1 zc
              refine hK.out _ _ (two BN.out hb2) (fun _ => ?_)
              clear hK K
              refine norm_ (a' := ?_) ?_ ?_
              rotate_left
              · show Act.put _ (some 16) _ = _
                simp only [Act.put, setIfInBounds_toArray, set_cons_zero, set_cons_succ, i64_w, i32_w]
                rfl
              obtain ⟨U2, hU2⟩ : ∃ u_, U1.alloc zc = u_ := ⟨_, rfl⟩
              rw [hU2] at z6 hb2 ⊢
              obtain ⟨p6, hp⟩ : ∃ p, U1.heap.size = p := ⟨_, rfl⟩
              rw [hp] at z6 g6  ⊢
              clear hU2 hp
              refine one_ (i := 7) (N := some 17) #[true, true, true, true, true, true, true, true, false, false] rfl rfl (one_of rfl (by kernel_rfl)) (by decide) (fun K hK => ?_)
              refine value_ (v := .pointer (some ⟨U2.heap.size, 0, none⟩)) (w1 := U2.alloc zc) (by rfl) rfl (by go_simp) ?_
              have z7 := heap_alloc_new U2 zc
              have g7 := hb2.size
              have ne : p6 ≠ U2.heap.size := Nat.ne_of_lt (blk_lt z6)
              replace z6 := blk_alloc z6 zc
              have hb3 := below_alloc hb2 zc
              refine hK.out _ _ (two BN.out hb3) (fun _ => ?_)
              clear hK K
              refine norm_ (a' := ?_) ?_ ?_
              rotate_left
              · show Act.put _ (some 17) _ = _
                simp only [Act.put, setIfInBounds_toArray, set_cons_zero, set_cons_succ, i64_w, i32_w]
                rfl
              obtain ⟨U3, hU2⟩ : ∃ u_, U2.alloc zc = u_ := ⟨_, rfl⟩
              rw [hU2] at z7 hb3 z6 ⊢
              obtain ⟨p7, hp⟩ : ∃ p, U2.heap.size = p := ⟨_, rfl⟩
              rw [hp] at z7 g7 ne ⊢
              clear hU2 hp
              exact hcont (p6, p7) _ ⟨z6, z7, ne, ⟨g6, g7⟩, hb3⟩
            · refine value_ (v := .pointer (some ⟨U1.heap.size, 0, none⟩)) (w1 := U1.alloc zc) (by rfl) rfl (by go_simp) ?_
              have z7 := heap_alloc_new U1 zc
              have g7 := hb1.size
              have hb2 := below_alloc hb1 zc
              refine hK.out _ _ (two BN.out hb2) (fun _ => ?_)
              clear hK K
              refine norm_ (a' := ?_) ?_ ?_
              rotate_left
              · show Act.put _ (some 17) _ = _
                simp only [Act.put, setIfInBounds_toArray, set_cons_zero, set_cons_succ, i64_w, i32_w]
                rfl
              obtain ⟨U2, hU2⟩ : ∃ u_, U1.alloc zc = u_ := ⟨_, rfl⟩
              rw [hU2] at z7 hb2 ⊢
              obtain ⟨p7, hp⟩ : ∃ p, U1.heap.size = p := ⟨_, rfl⟩
              rw [hp] at z7 g7  ⊢
              clear hU2 hp
              refine one_ (i := 6) (N := some 16) #[true, true, true, true, true, true, true, true, false, false] rfl rfl (one_of rfl (by kernel_rfl)) (by decide) (fun K hK => ?_)
              refine value_ (v := .pointer (some ⟨U2.heap.size, 0, none⟩)) (w1 := U2.alloc zc) (by rfl) rfl (by go_simp) ?_
              have z6 := heap_alloc_new U2 zc
              have g6 := hb2.size
              have ne : p7 ≠ U2.heap.size := Nat.ne_of_lt (blk_lt z7)
              replace z7 := blk_alloc z7 zc
              have hb3 := below_alloc hb2 zc
              refine hK.out _ _ (two BN.out hb3) (fun _ => ?_)
              clear hK K
              refine norm_ (a' := ?_) ?_ ?_
              rotate_left
              · show Act.put _ (some 16) _ = _
                simp only [Act.put, setIfInBounds_toArray, set_cons_zero, set_cons_succ, i64_w, i32_w]
                rfl
              obtain ⟨U3, hU2⟩ : ∃ u_, U2.alloc zc = u_ := ⟨_, rfl⟩
              rw [hU2] at z6 hb3 z7 ⊢
              obtain ⟨p6, hp⟩ : ∃ p, U2.heap.size = p := ⟨_, rfl⟩
              rw [hp] at z6 g6 ne ⊢
              clear hU2 hp
              exact hcont (p6, p7) _ ⟨z6, z7, (fun h => ne h.symm), ⟨g6, g7⟩, hb3⟩
          · refine value_ (v := .pointer (some ⟨U0.heap.size, 0, none⟩)) (w1 := U0.alloc zc) (by rfl) rfl (by go_simp) ?_
            have z6 := heap_alloc_new U0 zc
            have g6 := hb0.size
            have hb1 := below_alloc hb0 zc
            refine hK.out _ _ (two BN.out hb1) (fun _ => ?_)
            clear hK K
            refine norm_ (a' := ?_) ?_ ?_
            rotate_left
            · show Act.put _ (some 16) _ = _
              simp only [Act.put, setIfInBounds_toArray, set_cons_zero, set_cons_succ, i64_w, i32_w]
              rfl
            obtain ⟨U1, hU2⟩ : ∃ u_, U0.alloc zc = u_ := ⟨_, rfl⟩
            rw [hU2] at z6 hb1 ⊢
            obtain ⟨p6, hp⟩ : ∃ p, U0.heap.size = p := ⟨_, rfl⟩
            rw [hp] at z6 g6  ⊢
            clear hU2 hp
            refine two_ (i := 5) (j := 7) (Ni := some 77) (Nj := some 17) #[true, true, true, true, true, true, true, false, false, false] #[true, true, true, true, true, false, true, true, false, false] rfl rfl rfl rfl (two_of rfl (by kernel_rfl)) (by decide) (by decide) (fun K hK => ?_) (fun K hK => ?_)
            · refine goes_ Tryz.func25 (by kernel_rfl) rfl #[.int .i64 y] (by rfl) rfl rfl (by (try simp only [map_toArray, map_cons, map_nil]); rfl) ?_
              refine (HIY.out _).mono ?_
              rintro e U2 ⟨rfl, hc⟩
              refine ⟨_, rfl, ?_⟩
              have hb2 := below_step hb1 hc
              replace z6 := blk_below z6 hc
              refine hK.out _ _ (two BN.out hb2) (fun _ => ?_)
              clear hK K hc
              refine norm_ (a' := ?_) ?_ ?_
              rotate_left
              · show Act.put _ (some 77) _ = _
                simp only [Act.put, setIfInBounds_toArray, set_cons_zero, set_cons_succ, i64_w, i32_w]
                rfl
              refine one_ (i := 7) (N := some 17) #[true, true, true, true, true, true, true, true, false, false] rfl rfl (one_of rfl (by kernel_rfl)) (by decide) (fun K hK => ?_)
              refine value_ (v := .pointer (some ⟨U2.heap.size, 0, none⟩)) (w1 := U2.alloc zc) (by rfl) rfl (by go_simp) ?_
              have z7 := heap_alloc_new U2 zc
              have g7 := hb2.size
              have ne : p6 ≠ U2.heap.size := Nat.ne_of_lt (blk_lt z6)
              replace z6 := blk_alloc z6 zc
              have hb3 := below_alloc hb2 zc
              refine hK.out _ _ (two BN.out hb3) (fun _ => ?_)
              clear hK K
              refine norm_ (a' := ?_) ?_ ?_
              rotate_left
              · show Act.put _ (some 17) _ = _
                simp only [Act.put, setIfInBounds_toArray, set_cons_zero, set_cons_succ, i64_w, i32_w]
                rfl
              obtain ⟨U3, hU2⟩ : ∃ u_, U2.alloc zc = u_ := ⟨_, rfl⟩
              rw [hU2] at z7 hb3 z6 ⊢
              obtain ⟨p7, hp⟩ : ∃ p, U2.heap.size = p := ⟨_, rfl⟩
              rw [hp] at z7 g7 ne ⊢
              clear hU2 hp
              exact hcont (p6, p7) _ ⟨z6, z7, ne, ⟨g6, g7⟩, hb3⟩
            · refine value_ (v := .pointer (some ⟨U1.heap.size, 0, none⟩)) (w1 := U1.alloc zc) (by rfl) rfl (by go_simp) ?_
              have z7 := heap_alloc_new U1 zc
              have g7 := hb1.size
              have ne : p6 ≠ U1.heap.size := Nat.ne_of_lt (blk_lt z6)
              replace z6 := blk_alloc z6 zc
              have hb2 := below_alloc hb1 zc
              refine hK.out _ _ (two BN.out hb2) (fun _ => ?_)
              clear hK K
              refine norm_ (a' := ?_) ?_ ?_
              rotate_left
              · show Act.put _ (some 17) _ = _
                simp only [Act.put, setIfInBounds_toArray, set_cons_zero, set_cons_succ, i64_w, i32_w]
                rfl
              obtain ⟨U2, hU2⟩ : ∃ u_, U1.alloc zc = u_ := ⟨_, rfl⟩
              rw [hU2] at z7 hb2 z6 ⊢
              obtain ⟨p7, hp⟩ : ∃ p, U1.heap.size = p := ⟨_, rfl⟩
              rw [hp] at z7 g7 ne ⊢
              clear hU2 hp
              refine one_ (i := 5) (N := some 77) #[true, true, true, true, true, true, true, true, false, false] rfl rfl (one_of rfl (by kernel_rfl)) (by decide) (fun K hK => ?_)
              refine goes_ Tryz.func25 (by kernel_rfl) rfl #[.int .i64 y] (by rfl) rfl rfl (by (try simp only [map_toArray, map_cons, map_nil]); rfl) ?_
              refine (HIY.out _).mono ?_
              rintro e U3 ⟨rfl, hc⟩
              refine ⟨_, rfl, ?_⟩
              have hb3 := below_step hb2 hc
              replace z6 := blk_below z6 hc
              replace z7 := blk_below z7 hc
              refine hK.out _ _ (two BN.out hb3) (fun _ => ?_)
              clear hK K hc
              refine norm_ (a' := ?_) ?_ ?_
              rotate_left
              · show Act.put _ (some 77) _ = _
                simp only [Act.put, setIfInBounds_toArray, set_cons_zero, set_cons_succ, i64_w, i32_w]
                rfl
              exact hcont (p6, p7) _ ⟨z6, z7, ne, ⟨g6, g7⟩, hb3⟩
          · refine value_ (v := .pointer (some ⟨U0.heap.size, 0, none⟩)) (w1 := U0.alloc zc) (by rfl) rfl (by go_simp) ?_
            have z7 := heap_alloc_new U0 zc
            have g7 := hb0.size
            have hb1 := below_alloc hb0 zc
            refine hK.out _ _ (two BN.out hb1) (fun _ => ?_)
            clear hK K
            refine norm_ (a' := ?_) ?_ ?_
            rotate_left
            · show Act.put _ (some 17) _ = _
              simp only [Act.put, setIfInBounds_toArray, set_cons_zero, set_cons_succ, i64_w, i32_w]
              rfl
            obtain ⟨U1, hU2⟩ : ∃ u_, U0.alloc zc = u_ := ⟨_, rfl⟩
            rw [hU2] at z7 hb1 ⊢
            obtain ⟨p7, hp⟩ : ∃ p, U0.heap.size = p := ⟨_, rfl⟩
            rw [hp] at z7 g7  ⊢
            clear hU2 hp
            refine two_ (i := 5) (j := 6) (Ni := some 77) (Nj := some 16) #[true, true, true, true, true, true, false, true, false, false] #[true, true, true, true, true, false, true, true, false, false] rfl rfl rfl rfl (two_of rfl (by kernel_rfl)) (by decide) (by decide) (fun K hK => ?_) (fun K hK => ?_)
            · refine goes_ Tryz.func25 (by kernel_rfl) rfl #[.int .i64 y] (by rfl) rfl rfl (by (try simp only [map_toArray, map_cons, map_nil]); rfl) ?_
              refine (HIY.out _).mono ?_
              rintro e U2 ⟨rfl, hc⟩
              refine ⟨_, rfl, ?_⟩
              have hb2 := below_step hb1 hc
              replace z7 := blk_below z7 hc
              refine hK.out _ _ (two BN.out hb2) (fun _ => ?_)
              clear hK K hc
              refine norm_ (a' := ?_) ?_ ?_
              rotate_left
              · show Act.put _ (some 77) _ = _
                simp only [Act.put, setIfInBounds_toArray, set_cons_zero, set_cons_succ, i64_w, i32_w]
                rfl
              refine one_ (i := 6) (N := some 16) #[true, true, true, true, true, true, true, true, false, false] rfl rfl (one_of rfl (by kernel_rfl)) (by decide) (fun K hK => ?_)
              refine value_ (v := .pointer (some ⟨U2.heap.size, 0, none⟩)) (w1 := U2.alloc zc) (by rfl) rfl (by go_simp) ?_
              have z6 := heap_alloc_new U2 zc
              have g6 := hb2.size
              have ne : p7 ≠ U2.heap.size := Nat.ne_of_lt (blk_lt z7)
              replace z7 := blk_alloc z7 zc
              have hb3 := below_alloc hb2 zc
              refine hK.out _ _ (two BN.out hb3) (fun _ => ?_)
              clear hK K
              refine norm_ (a' := ?_) ?_ ?_
              rotate_left
              · show Act.put _ (some 16) _ = _
                simp only [Act.put, setIfInBounds_toArray, set_cons_zero, set_cons_succ, i64_w, i32_w]
                rfl
              obtain ⟨U3, hU2⟩ : ∃ u_, U2.alloc zc = u_ := ⟨_, rfl⟩
              rw [hU2] at z6 hb3 z7 ⊢
              obtain ⟨p6, hp⟩ : ∃ p, U2.heap.size = p := ⟨_, rfl⟩
              rw [hp] at z6 g6 ne ⊢
              clear hU2 hp
              exact hcont (p6, p7) _ ⟨z6, z7, (fun h => ne h.symm), ⟨g6, g7⟩, hb3⟩
            · refine value_ (v := .pointer (some ⟨U1.heap.size, 0, none⟩)) (w1 := U1.alloc zc) (by rfl) rfl (by go_simp) ?_
              have z6 := heap_alloc_new U1 zc
              have g6 := hb1.size
              have ne : p7 ≠ U1.heap.size := Nat.ne_of_lt (blk_lt z7)
              replace z7 := blk_alloc z7 zc
              have hb2 := below_alloc hb1 zc
              refine hK.out _ _ (two BN.out hb2) (fun _ => ?_)
              clear hK K
              refine norm_ (a' := ?_) ?_ ?_
              rotate_left
              · show Act.put _ (some 16) _ = _
                simp only [Act.put, setIfInBounds_toArray, set_cons_zero, set_cons_succ, i64_w, i32_w]
                rfl
              obtain ⟨U2, hU2⟩ : ∃ u_, U1.alloc zc = u_ := ⟨_, rfl⟩
              rw [hU2] at z6 hb2 z7 ⊢
              obtain ⟨p6, hp⟩ : ∃ p, U1.heap.size = p := ⟨_, rfl⟩
              rw [hp] at z6 g6 ne ⊢
              clear hU2 hp
              refine one_ (i := 5) (N := some 77) #[true, true, true, true, true, true, true, true, false, false] rfl rfl (one_of rfl (by kernel_rfl)) (by decide) (fun K hK => ?_)
              refine goes_ Tryz.func25 (by kernel_rfl) rfl #[.int .i64 y] (by rfl) rfl rfl (by (try simp only [map_toArray, map_cons, map_nil]); rfl) ?_
              refine (HIY.out _).mono ?_
              rintro e U3 ⟨rfl, hc⟩
              refine ⟨_, rfl, ?_⟩
              have hb3 := below_step hb2 hc
              replace z6 := blk_below z6 hc
              replace z7 := blk_below z7 hc
              refine hK.out _ _ (two BN.out hb3) (fun _ => ?_)
              clear hK K hc
              refine norm_ (a' := ?_) ?_ ?_
              rotate_left
              · show Act.put _ (some 77) _ = _
                simp only [Act.put, setIfInBounds_toArray, set_cons_zero, set_cons_succ, i64_w, i32_w]
                rfl
              exact hcont (p6, p7) _ ⟨z6, z7, (fun h => ne h.symm), ⟨g6, g7⟩, hb3⟩
        · refine value_ (v := .pointer (some ⟨V.heap.size, 0, none⟩)) (w1 := V.alloc zc) (by rfl) rfl (by go_simp) ?_
          have z6 := heap_alloc_new V zc
          have hb0 := below_alloc (Below.refl V.heap.size V) zc
          refine hK.out _ _ (two BN.out hb0) (fun _ => ?_)
          clear hK K
          refine norm_ (a' := ?_) ?_ ?_
          rotate_left
          · show Act.put _ (some 16) _ = _
            simp only [Act.put, setIfInBounds_toArray, set_cons_zero, set_cons_succ, i64_w, i32_w]
            rfl
          obtain ⟨U0, hU2⟩ : ∃ u_, V.alloc zc = u_ := ⟨_, rfl⟩
          rw [hU2] at z6 hb0 ⊢
          obtain ⟨p6, hp⟩ : ∃ p, V.heap.size = p := ⟨_, rfl⟩
          rw [hp] at z6   ⊢
          have g6 := Nat.le_of_eq hp
          clear hU2 hp
          refine two_ (i := 2) (j := 7) (Ni := some 74) (Nj := some 17) #[true, true, true, true, true, false, true, false, false, false] #[true, true, false, true, true, false, true, true, false, false] rfl rfl rfl rfl (two_of rfl (by kernel_rfl)) (by decide) (by decide) (fun K hK => ?_) (fun K hK => ?_)
          · refine goes_ Tryz.func25 (by kernel_rfl) rfl #[.int .i64 x] (by rfl) rfl rfl (by (try simp only [map_toArray, map_cons, map_nil]); rfl) ?_
            refine (HIX.out _).mono ?_
            rintro e U1 ⟨rfl, hc⟩
            refine ⟨_, rfl, ?_⟩
            have hb1 := below_step hb0 hc
            replace z6 := blk_below z6 hc
            refine hK.out _ _ (two BN.out hb1) (fun _ => ?_)
            clear hK K hc
            refine norm_ (a' := ?_) ?_ ?_
            rotate_left
            · show Act.put _ (some 74) _ = _
              simp only [Act.put, setIfInBounds_toArray, set_cons_zero, set_cons_succ, i64_w, i32_w]
              rfl
            refine two_ (i := 5) (j := 7) (Ni := some 77) (Nj := some 17) #[true, true, true, true, true, true, true, false, false, false] #[true, true, true, true, true, false, true, true, false, false] rfl rfl rfl rfl (two_of rfl (by kernel_rfl)) (by decide) (by decide) (fun K hK => ?_) (fun K hK => ?_)
            · refine goes_ Tryz.func25 (by kernel_rfl) rfl #[.int .i64 y] (by rfl) rfl rfl (by (try simp only [map_toArray, map_cons, map_nil]); rfl) ?_
              refine (HIY.out _).mono ?_
              rintro e U2 ⟨rfl, hc⟩
              refine ⟨_, rfl, ?_⟩
              have hb2 := below_step hb1 hc
              replace z6 := blk_below z6 hc
              refine hK.out _ _ (two BN.out hb2) (fun _ => ?_)
              clear hK K hc
              refine norm_ (a' := ?_) ?_ ?_
              rotate_left
              · show Act.put _ (some 77) _ = _
                simp only [Act.put, setIfInBounds_toArray, set_cons_zero, set_cons_succ, i64_w, i32_w]
                rfl
              refine one_ (i := 7) (N := some 17) #[true, true, true, true, true, true, true, true, false, false] rfl rfl (one_of rfl (by kernel_rfl)) (by decide) (fun K hK => ?_)
              refine value_ (v := .pointer (some ⟨U2.heap.size, 0, none⟩)) (w1 := U2.alloc zc) (by rfl) rfl (by go_simp) ?_
              have z7 := heap_alloc_new U2 zc
              have g7 := hb2.size
              have ne : p6 ≠ U2.heap.size := Nat.ne_of_lt (blk_lt z6)
              replace z6 := blk_alloc z6 zc
              have hb3 := below_alloc hb2 zc
              refine hK.out _ _ (two BN.out hb3) (fun _ => ?_)
              clear hK K
              refine norm_ (a' := ?_) ?_ ?_
              rotate_left
              · show Act.put _ (some 17) _ = _
                simp only [Act.put, setIfInBounds_toArray, set_cons_zero, set_cons_succ, i64_w, i32_w]
                rfl
              obtain ⟨U3, hU2⟩ : ∃ u_, U2.alloc zc = u_ := ⟨_, rfl⟩
              rw [hU2] at z7 hb3 z6 ⊢
              obtain ⟨p7, hp⟩ : ∃ p, U2.heap.size = p := ⟨_, rfl⟩
              rw [hp] at z7 g7 ne ⊢
              clear hU2 hp
              exact hcont (p6, p7) _ ⟨z6, z7, ne, ⟨g6, g7⟩, hb3⟩
            · refine value_ (v := .pointer (some ⟨U1.heap.size, 0, none⟩)) (w1 := U1.alloc zc) (by rfl) rfl (by go_simp) ?_
              have z7 := heap_alloc_new U1 zc
              have g7 := hb1.size
              have ne : p6 ≠ U1.heap.size := Nat.ne_of_lt (blk_lt z6)
              replace z6 := blk_alloc z6 zc
              have hb2 := below_alloc hb1 zc
              refine hK.out _ _ (two BN.out hb2) (fun _ => ?_)
              clear hK K
              refine norm_ (a' := ?_) ?_ ?_
              rotate_left
              · show Act.put _ (some 17) _ = _
                simp only [Act.put, setIfInBounds_toArray, set_cons_zero, set_cons_succ, i64_w, i32_w]
                rfl
              obtain ⟨U2, hU2⟩ : ∃ u_, U1.alloc zc = u_ := ⟨_, rfl⟩
              rw [hU2] at z7 hb2 z6 ⊢
              obtain ⟨p7, hp⟩ : ∃ p, U1.heap.size = p := ⟨_, rfl⟩
              rw [hp] at z7 g7 ne ⊢
              clear hU2 hp
              refine one_ (i := 5) (N := some 77) #[true, true, true, true, true, true, true, true, false, false] rfl rfl (one_of rfl (by kernel_rfl)) (by decide) (fun K hK => ?_)
              refine goes_ Tryz.func25 (by kernel_rfl) rfl #[.int .i64 y] (by rfl) rfl rfl (by (try simp only [map_toArray, map_cons, map_nil]); rfl) ?_
              refine (HIY.out _).mono ?_
              rintro e U3 ⟨rfl, hc⟩
              refine ⟨_, rfl, ?_⟩
              have hb3 := below_step hb2 hc
              replace z6 := blk_below z6 hc
              replace z7 := blk_below z7 hc
              refine hK.out _ _ (two BN.out hb3) (fun _ => ?_)
              clear hK K hc
              refine norm_ (a' := ?_) ?_ ?_
              rotate_left
              · show Act.put _ (some 77) _ = _
                simp only [Act.put, setIfInBounds_toArray, set_cons_zero, set_cons_succ, i64_w, i32_w]
                rfl
              exact hcont (p6, p7) _ ⟨z6, z7, ne, ⟨g6, g7⟩, hb3⟩
          · refine value_ (v := .pointer (some ⟨U0.heap.size, 0, none⟩)) (w1 := U0.alloc zc) (by rfl) rfl (by go_simp) ?_
            have z7 := heap_alloc_new U0 zc
            have g7 := hb0.size
            have ne : p6 ≠ U0.heap.size := Nat.ne_of_lt (blk_lt z6)
            replace z6 := blk_alloc z6 zc
            have hb1 := below_alloc hb0 zc
            refine hK.out _ _ (two BN.out hb1) (fun _ => ?_)
            clear hK K
            refine norm_ (a' := ?_) ?_ ?_
            rotate_left
            · show Act.put _ (some 17) _ = _
              simp only [Act.put, setIfInBounds_toArray, set_cons_zero, set_cons_succ, i64_w, i32_w]
              rfl
            obtain ⟨U1, hU2⟩ : ∃ u_, U0.alloc zc = u_ := ⟨_, rfl⟩
            rw [hU2] at z7 hb1 z6 ⊢
            obtain ⟨p7, hp⟩ : ∃ p, U0.heap.size = p := ⟨_, rfl⟩
            rw [hp] at z7 g7 ne ⊢
            clear hU2 hp
            refine one_ (i := 2) (N := some 74) #[true, true, true, true, true, false, true, true, false, false] rfl rfl (one_of rfl (by kernel_rfl)) (by decide) (fun K hK => ?_)
            refine goes_ Tryz.func25 (by kernel_rfl) rfl #[.int .i64 x] (by rfl) rfl rfl (by (try simp only [map_toArray, map_cons, map_nil]); rfl) ?_
            refine (HIX.out _).mono ?_
            rintro e U2 ⟨rfl, hc⟩
            refine ⟨_, rfl, ?_⟩
            have hb2 := below_step hb1 hc
            replace z6 := blk_below z6 hc
            replace z7 := blk_below z7 hc
            refine hK.out _ _ (two BN.out hb2) (fun _ => ?_)
            clear hK K hc
            refine norm_ (a' := ?_) ?_ ?_
            rotate_left
            · show Act.put _ (some 74) _ = _
              simp only [Act.put, setIfInBounds_toArray, set_cons_zero, set_cons_succ, i64_w, i32_w]
              rfl
            refine one_ (i := 5) (N := some 77) #[true, true, true, true, true, true, true, true, false, false] rfl rfl (one_of rfl (by kernel_rfl)) (by decide) (fun K hK => ?_)
            refine goes_ Tryz.func25 (by kernel_rfl) rfl #[.int .i64 y] (by rfl) rfl rfl (by (try simp only [map_toArray, map_cons, map_nil]); rfl) ?_
            refine (HIY.out _).mono ?_
            rintro e U3 ⟨rfl, hc⟩
            refine ⟨_, rfl, ?_⟩
            have hb3 := below_step hb2 hc
            replace z6 := blk_below z6 hc
            replace z7 := blk_below z7 hc
            refine hK.out _ _ (two BN.out hb3) (fun _ => ?_)
            clear hK K hc
            refine norm_ (a' := ?_) ?_ ?_
            rotate_left
            · show Act.put _ (some 77) _ = _
              simp only [Act.put, setIfInBounds_toArray, set_cons_zero, set_cons_succ, i64_w, i32_w]
              rfl
            exact hcont (p6, p7) _ ⟨z6, z7, ne, ⟨g6, g7⟩, hb3⟩
        · refine value_ (v := .pointer (some ⟨V.heap.size, 0, none⟩)) (w1 := V.alloc zc) (by rfl) rfl (by go_simp) ?_
          have z7 := heap_alloc_new V zc
          have hb0 := below_alloc (Below.refl V.heap.size V) zc
          refine hK.out _ _ (two BN.out hb0) (fun _ => ?_)
          clear hK K
          refine norm_ (a' := ?_) ?_ ?_
          rotate_left
          · show Act.put _ (some 17) _ = _
            simp only [Act.put, setIfInBounds_toArray, set_cons_zero, set_cons_succ, i64_w, i32_w]
            rfl
          obtain ⟨U0, hU2⟩ : ∃ u_, V.alloc zc = u_ := ⟨_, rfl⟩
          rw [hU2] at z7 hb0 ⊢
          obtain ⟨p7, hp⟩ : ∃ p, V.heap.size = p := ⟨_, rfl⟩
          rw [hp] at z7   ⊢
          have g7 := Nat.le_of_eq hp
          clear hU2 hp
          refine two_ (i := 2) (j := 6) (Ni := some 74) (Nj := some 16) #[true, true, true, true, true, false, false, true, false, false] #[true, true, false, true, true, false, true, true, false, false] rfl rfl rfl rfl (two_of rfl (by kernel_rfl)) (by decide) (by decide) (fun K hK => ?_) (fun K hK => ?_)
          · refine goes_ Tryz.func25 (by kernel_rfl) rfl #[.int .i64 x] (by rfl) rfl rfl (by (try simp only [map_toArray, map_cons, map_nil]); rfl) ?_
            refine (HIX.out _).mono ?_
            rintro e U1 ⟨rfl, hc⟩
            refine ⟨_, rfl, ?_⟩
            have hb1 := below_step hb0 hc
            replace z7 := blk_below z7 hc
            refine hK.out _ _ (two BN.out hb1) (fun _ => ?_)
            clear hK K hc
            refine norm_ (a' := ?_) ?_ ?_
            rotate_left
            · show Act.put _ (some 74) _ = _
              simp only [Act.put, setIfInBounds_toArray, set_cons_zero, set_cons_succ, i64_w, i32_w]
              rfl
            refine two_ (i := 5) (j := 6) (Ni := some 77) (Nj := some 16) #[true, true, true, true, true, true, false, true, false, false] #[true, true, true, true, true, false, true, true, false, false] rfl rfl rfl rfl (two_of rfl (by kernel_rfl)) (by decide) (by decide) (fun K hK => ?_) (fun K hK => ?_)
            · refine goes_ Tryz.func25 (by kernel_rfl) rfl #[.int .i64 y] (by rfl) rfl rfl (by (try simp only [map_toArray, map_cons, map_nil]); rfl) ?_
              refine (HIY.out _).mono ?_
              rintro e U2 ⟨rfl, hc⟩
              refine ⟨_, rfl, ?_⟩
              have hb2 := below_step hb1 hc
              replace z7 := blk_below z7 hc
              refine hK.out _ _ (two BN.out hb2) (fun _ => ?_)
              clear hK K hc
              refine norm_ (a' := ?_) ?_ ?_
              rotate_left
              · show Act.put _ (some 77) _ = _
                simp only [Act.put, setIfInBounds_toArray, set_cons_zero, set_cons_succ, i64_w, i32_w]
                rfl
              refine one_ (i := 6) (N := some 16) #[true, true, true, true, true, true, true, true, false, false] rfl rfl (one_of rfl (by kernel_rfl)) (by decide) (fun K hK => ?_)
              refine value_ (v := .pointer (some ⟨U2.heap.size, 0, none⟩)) (w1 := U2.alloc zc) (by rfl) rfl (by go_simp) ?_
              have z6 := heap_alloc_new U2 zc
              have g6 := hb2.size
              have ne : p7 ≠ U2.heap.size := Nat.ne_of_lt (blk_lt z7)
              replace z7 := blk_alloc z7 zc
              have hb3 := below_alloc hb2 zc
              refine hK.out _ _ (two BN.out hb3) (fun _ => ?_)
              clear hK K
              refine norm_ (a' := ?_) ?_ ?_
              rotate_left
              · show Act.put _ (some 16) _ = _
                simp only [Act.put, setIfInBounds_toArray, set_cons_zero, set_cons_succ, i64_w, i32_w]
                rfl
              obtain ⟨U3, hU2⟩ : ∃ u_, U2.alloc zc = u_ := ⟨_, rfl⟩
              rw [hU2] at z6 hb3 z7 ⊢
              obtain ⟨p6, hp⟩ : ∃ p, U2.heap.size = p := ⟨_, rfl⟩
              rw [hp] at z6 g6 ne ⊢
              clear hU2 hp
              exact hcont (p6, p7) _ ⟨z6, z7, (fun h => ne h.symm), ⟨g6, g7⟩, hb3⟩
            · refine value_ (v := .pointer (some ⟨U1.heap.size, 0, none⟩)) (w1 := U1.alloc zc) (by rfl) rfl (by go_simp) ?_
              have z6 := heap_alloc_new U1 zc
              have g6 := hb1.size
              have ne : p7 ≠ U1.heap.size := Nat.ne_of_lt (blk_lt z7)
              replace z7 := blk_alloc z7 zc
              have hb2 := below_alloc hb1 zc
              refine hK.out _ _ (two BN.out hb2) (fun _ => ?_)
              clear hK K
              refine norm_ (a' := ?_) ?_ ?_
              rotate_left
              · show Act.put _ (some 16) _ = _
                simp only [Act.put, setIfInBounds_toArray, set_cons_zero, set_cons_succ, i64_w, i32_w]
                rfl
              obtain ⟨U2, hU2⟩ : ∃ u_, U1.alloc zc = u_ := ⟨_, rfl⟩
              rw [hU2] at z6 hb2 z7 ⊢
              obtain ⟨p6, hp⟩ : ∃ p, U1.heap.size = p := ⟨_, rfl⟩
              rw [hp] at z6 g6 ne ⊢
              clear hU2 hp
              refine one_ (i := 5) (N := some 77) #[true, true, true, true, true, true, true, true, false, false] rfl rfl (one_of rfl (by kernel_rfl)) (by decide) (fun K hK => ?_)
              refine goes_ Tryz.func25 (by kernel_rfl) rfl #[.int .i64 y] (by rfl) rfl rfl (by (try simp only [map_toArray, map_cons, map_nil]); rfl) ?_
              refine (HIY.out _).mono ?_
              rintro e U3 ⟨rfl, hc⟩
              refine ⟨_, rfl, ?_⟩
              have hb3 := below_step hb2 hc
              replace z6 := blk_below z6 hc
              replace z7 := blk_below z7 hc
              refine hK.out _ _ (two BN.out hb3) (fun _ => ?_)
              clear hK K hc
              refine norm_ (a' := ?_) ?_ ?_
              rotate_left
              · show Act.put _ (some 77) _ = _
                simp only [Act.put, setIfInBounds_toArray, set_cons_zero, set_cons_succ, i64_w, i32_w]
                rfl
              exact hcont (p6, p7) _ ⟨z6, z7, (fun h => ne h.symm), ⟨g6, g7⟩, hb3⟩
          · refine value_ (v := .pointer (some ⟨U0.heap.size, 0, none⟩)) (w1 := U0.alloc zc) (by rfl) rfl (by go_simp) ?_
            have z6 := heap_alloc_new U0 zc
            have g6 := hb0.size
            have ne : p7 ≠ U0.heap.size := Nat.ne_of_lt (blk_lt z7)
            replace z7 := blk_alloc z7 zc
            have hb1 := below_alloc hb0 zc
            refine hK.out _ _ (two BN.out hb1) (fun _ => ?_)
            clear hK K
            refine norm_ (a' := ?_) ?_ ?_
            rotate_left
            · show Act.put _ (some 16) _ = _
              simp only [Act.put, setIfInBounds_toArray, set_cons_zero, set_cons_succ, i64_w, i32_w]
              rfl
            obtain ⟨U1, hU2⟩ : ∃ u_, U0.alloc zc = u_ := ⟨_, rfl⟩
            rw [hU2] at z6 hb1 z7 ⊢
            obtain ⟨p6, hp⟩ : ∃ p, U0.heap.size = p := ⟨_, rfl⟩
            rw [hp] at z6 g6 ne ⊢
            clear hU2 hp
            refine one_ (i := 2) (N := some 74) #[true, true, true, true, true, false, true, true, false, false] rfl rfl (one_of rfl (by kernel_rfl)) (by decide) (fun K hK => ?_)
            refine goes_ Tryz.func25 (by kernel_rfl) rfl #[.int .i64 x] (by rfl) rfl rfl (by (try simp only [map_toArray, map_cons, map_nil]); rfl) ?_
            refine (HIX.out _).mono ?_
            rintro e U2 ⟨rfl, hc⟩
            refine ⟨_, rfl, ?_⟩
            have hb2 := below_step hb1 hc
            replace z6 := blk_below z6 hc
            replace z7 := blk_below z7 hc
            refine hK.out _ _ (two BN.out hb2) (fun _ => ?_)
            clear hK K hc
            refine norm_ (a' := ?_) ?_ ?_
            rotate_left
            · show Act.put _ (some 74) _ = _
              simp only [Act.put, setIfInBounds_toArray, set_cons_zero, set_cons_succ, i64_w, i32_w]
              rfl
            refine one_ (i := 5) (N := some 77) #[true, true, true, true, true, true, true, true, false, false] rfl rfl (one_of rfl (by kernel_rfl)) (by decide) (fun K hK => ?_)
            refine goes_ Tryz.func25 (by kernel_rfl) rfl #[.int .i64 y] (by rfl) rfl rfl (by (try simp only [map_toArray, map_cons, map_nil]); rfl) ?_
            refine (HIY.out _).mono ?_
            rintro e U3 ⟨rfl, hc⟩
            refine ⟨_, rfl, ?_⟩
            have hb3 := below_step hb2 hc
            replace z6 := blk_below z6 hc
            replace z7 := blk_below z7 hc
            refine hK.out _ _ (two BN.out hb3) (fun _ => ?_)
            clear hK K hc
            refine norm_ (a' := ?_) ?_ ?_
            rotate_left
            · show Act.put _ (some 77) _ = _
              simp only [Act.put, setIfInBounds_toArray, set_cons_zero, set_cons_succ, i64_w, i32_w]
              rfl
            exact hcont (p6, p7) _ ⟨z6, z7, (fun h => ne h.symm), ⟨g6, g7⟩, hb3⟩
      rintro ⟨p, q⟩ U ⟨z0, z1, ne, ⟨g0, g1⟩, hbU⟩
      refine norm_ (a' := ?_) ?_ ?_
      rotate_left
      · simp only [putAll, Act.put, setIfInBounds_toArray, set_cons_zero, set_cons_succ]
        rfl
      obtain ⟨c0, c1, f0, f1, c2, f2⟩ := put_facts z0 (.int .u64 X)
      obtain ⟨y_p, yy⟩ := put_cell z0 (.int .u64 X) (.string (⟨#[]⟩ : ByteArray))
      refine one_ (i := 8) (N := none) #[true, true, true, true, true, true, true, true, true, false] rfl rfl (one_of rfl (by kernel_rfl)) (by decide) (fun K hK => ?_)
      refine skip_ (w1 := (U.setCell ⟨p, 0, none⟩ (.int .u64 X)).setCell ⟨p, 1, none⟩ (.string (⟨#[]⟩ : ByteArray))) (by rfl) rfl (by go_simp) ?_
      have hbV0 := below_set (j := 1) (v := .string (⟨#[]⟩ : ByteArray)) (below_set (j := 0) (v := .int .u64 X) hbU g0) g0
      have a1 := (yy _ (fun h => ne h.symm)).trans z1
      refine hK.out _ _ (two BN.out hbV0) (fun hS => ?_)
      clear hS hK K c0 c1 f0 f1 c2 f2 yy z0 hbU z1
      obtain ⟨V0, hV⟩ : ∃ V, (U.setCell ⟨p, 0, none⟩ (.int .u64 X)).setCell ⟨p, 1, none⟩ (.string (⟨#[]⟩ : ByteArray)) = V := ⟨_, rfl⟩
      rw [hV] at y_p hbV0 a1 ⊢
      clear hV U
      obtain ⟨c0, c1, f0, f1, c2, f2⟩ := put_facts a1 (.int .u64 Y)
      obtain ⟨y_q, yy⟩ := put_cell a1 (.int .u64 Y) (.string (⟨#[]⟩ : ByteArray))
      refine one_ (i := 9) (N := none) #[true, true, true, true, true, true, true, true, true, true] rfl rfl (one_of rfl (by kernel_rfl)) (by decide) (fun K hK => ?_)
      refine skip_ (w1 := (V0.setCell ⟨q, 0, none⟩ (.int .u64 Y)).setCell ⟨q, 1, none⟩ (.string (⟨#[]⟩ : ByteArray))) (by rfl) rfl (by go_simp) ?_
      have hbV1 := below_set (j := 1) (v := .string (⟨#[]⟩ : ByteArray)) (below_set (j := 0) (v := .int .u64 Y) hbV0 g1) g1
      have b0 := (yy _ ne).trans y_p
      refine hK.out _ _ (two BN.out hbV1) (fun hS => ?_)
      clear hS hK K c0 c1 f0 f1 c2 f2 yy a1 hbV0 y_p
      obtain ⟨V1, hV⟩ : ∃ V, (V0.setCell ⟨q, 0, none⟩ (.int .u64 Y)).setCell ⟨q, 1, none⟩ (.string (⟨#[]⟩ : ByteArray)) = V := ⟨_, rfl⟩
      rw [hV] at y_q hbV1 b0 ⊢
      clear hV V0
      refine done_ (done_of rfl (by kernel_rfl)) ?_
      have BP := Aside0.mk b0
      have BQ := Aside0.mk y_q
      replace HB := Aside0.mk (below_step HB.out hbV1)
      replace BN := Aside0.mk ((hbV1.block _ (blk_lt BN.out)).trans BN.out)
      clear b0 y_q hbV1 ne g0 g1 hHeld V HIX HIY
      go_wp2_with fail
      replace BP := Aside0.mk (show V1.drew.heap[p]? = some (.cells #[.int .u64 X, .string ⟨#[]⟩] 24 (0, 0)) from BP.out)
      replace BQ := Aside0.mk (show V1.drew.heap[q]? = some (.cells #[.int .u64 Y, .string ⟨#[]⟩] 24 (0, 0)) from BQ.out)
      replace BN := Aside0.mk (show V1.drew.heap[w.heap.size + 1]? = some (.cells #[.int .i64 x, .int .i64 y] 36 (0, 0)) from BN.out)
      replace HB := Aside0.mk (below_drew1 HB.out)
      obtain ⟨e1, e2⟩ := E12.out
      refine start_ (n := 40) (S := fun w' => (w'.cell? ⟨p, 0, none⟩ = some (.int .u64 X) ∧ w'.cell? ⟨p, 1, none⟩ = some (.string ⟨#[]⟩)) ∧ (w'.cell? ⟨q, 0, none⟩ = some (.int .u64 Y) ∧ w'.cell? ⟨q, 1, none⟩ = some (.string ⟨#[]⟩)) ∧ Two (w.heap.size + 1) x y w') (ds := []) #[false, false, false, false, false, false, false, false, false, false, false, false, false, false, false, false, false, false, false, false, false, false, false, false, false, false, false, false, false, false, false, false, false, false, false, false, false, false, false, false] (by kernel_rfl) rfl rfl (s3 BP.out BQ.out BN.out (Below.refl _ _)) (fun hHeld => ?_)
      generalize V1.drew = T0 at *
      clear V1
      refine one_ (i := 0) (N := some 78) #[true, false, false, false, false, false, false, false, false, false, false, false, false, false, false, false, false, false, false, false, false, false, false, false, false, false, false, false, false, false, false, false, false, false, false, false, false, false, false, false] rfl rfl (one_of rfl (by kernel_rfl)) (by decide) (fun K hK => ?_)
      refine goes_ Tryz.func18 (by kernel_rfl) rfl #[] (by rfl) rfl rfl (by first | rfl | (simp only [map_toArray, map_nil]; done) | ((try simp only [map_toArray, map_cons, map_nil]); rfl)) ?_
      refine (HAL.out _ (below_step HB.out (Below.refl _ _))).mono ?_
      rintro e w2 ⟨rfl, hb⟩
      refine ⟨_, rfl, ?_⟩
      have m1 := below_step (Below.refl _ _) hb
      refine hK.out _ _ (s3 BP.out BQ.out BN.out m1) (fun hHeld => ?_)
      clear hK K
      refine norm_ (a' := ?_) ?_ ?_
      rotate_left
      · show Act.put _ (some 78) _ = _
        simp only [Act.put, setIfInBounds_toArray, set_cons_zero, set_cons_succ, i64_w, i32_w]
        rfl
      clear hb
      refine pure_ (i := 1) (N := some 79) (v := ?_) (a' := ?_) #[true, true, false, false, false, false, false, false, false, false, false, false, false, false, false, false, false, false, false, false, false, false, false, false, false, false, false, false, false, false, false, false, false, false, false, false, false, false, false, false] rfl rfl (any_of rfl (by kernel_rfl)) (fun _ _ _ h => h) (Or.inl ⟨by rfl, ?_⟩) ?_ ?_
      rotate_left
      · intro w'
        go_simp
        with_reducible rfl
      rotate_left
      · simp only [Act.put, setIfInBounds_toArray, set_cons_zero, set_cons_succ, i64_w, i32_w]
        rfl
      refine take_ (i := 2) (N := some 80) (v := ?_) (a' := ?_) #[true, true, true, false, false, false, false, false, false, false, false, false, false, false, false, false, false, false, false, false, false, false, false, false, false, false, false, false, false, false, false, false, false, false, false, false, false, false, false, false] rfl rfl (take_of rfl (by kernel_rfl)) (fun _ _ _ h => h) (Or.inl ⟨by rfl, ?_⟩) hHeld ?_ ?_
      rotate_left
      · rintro w' ⟨⟨q0, q1⟩, ⟨q2, q3⟩, q4, q5⟩
        go_simp
        with_reducible rfl
      rotate_left
      · simp only [Act.put, setIfInBounds_toArray, set_cons_zero, set_cons_succ, i64_w, i32_w]
        rfl
      refine take_ (i := 4) (N := some 82) (v := ?_) (a' := ?_) #[true, true, true, false, true, false, false, false, false, false, false, false, false, false, false, false, false, false, false, false, false, false, false, false, false, false, false, false, false, false, false, false, false, false, false, false, false, false, false, false] rfl rfl (take_of rfl (by kernel_rfl)) (fun _ _ _ h => h) (Or.inl ⟨by rfl, ?_⟩) hHeld ?_ ?_
      rotate_left
      · rintro w' ⟨⟨q0, q1⟩, ⟨q2, q3⟩, q4, q5⟩
        go_simp
        with_reducible rfl
      rotate_left
      · simp only [Act.put, setIfInBounds_toArray, set_cons_zero, set_cons_succ, i64_w, i32_w]
        rfl
      refine take_ (i := 5) (N := some 83) (v := ?_) (a' := ?_) #[true, true, true, false, true, true, false, false, false, false, false, false, false, false, false, false, false, false, false, false, false, false, false, false, false, false, false, false, false, false, false, false, false, false, false, false, false, false, false, false] rfl rfl (take_of rfl (by kernel_rfl)) (fun _ _ _ h => h) (Or.inl ⟨by rfl, ?_⟩) hHeld ?_ ?_
      rotate_left
      · rintro w' ⟨⟨q0, q1⟩, ⟨q2, q3⟩, q4, q5⟩
        go_simp
        with_reducible rfl
      rotate_left
      · simp only [Act.put, setIfInBounds_toArray, set_cons_zero, set_cons_succ, i64_w, i32_w]
        rfl
      refine one_ (i := 3) (N := some 81) #[true, true, true, true, true, true, false, false, false, false, false, false, false, false, false, false, false, false, false, false, false, false, false, false, false, false, false, false, false, false, false, false, false, false, false, false, false, false, false, false] rfl rfl (one_of rfl (by kernel_rfl)) (by decide) (fun K hK => ?_)
      refine goes_ Tryz.func26 (by kernel_rfl) rfl #[.agg #[.int .u64 X, .string ⟨#[]⟩]] (by rfl) rfl rfl (by first | rfl | (simp only [map_toArray, map_nil]; done) | ((try simp only [map_toArray, map_cons, map_nil]); rfl)) ?_
      refine (HSX.out _).mono ?_
      rintro e w2 ⟨rfl, hb⟩
      refine ⟨_, rfl, ?_⟩
      have m2 := below_step m1 hb
      refine hK.out _ _ (s3 BP.out BQ.out BN.out m2) (fun hHeld => ?_)
      clear hK K
      refine norm_ (a' := ?_) ?_ ?_
      rotate_left
      · show Act.put _ (some 81) _ = _
        simp only [Act.put, setIfInBounds_toArray, set_cons_zero, set_cons_succ, i64_w, i32_w]
        rfl
      clear hb m1
      refine pure_ (i := 6) (N := some 84) (v := ?_) (a' := ?_) #[true, true, true, true, true, true, true, false, false, false, false, false, false, false, false, false, false, false, false, false, false, false, false, false, false, false, false, false, false, false, false, false, false, false, false, false, false, false, false, false] rfl rfl (any_of rfl (by kernel_rfl)) (fun _ _ _ h => h) (Or.inl ⟨by rfl, ?_⟩) ?_ ?_
      rotate_left
      · intro w'
        go_simp
        with_reducible rfl
      rotate_left
      · simp only [Act.put, setIfInBounds_toArray, set_cons_zero, set_cons_succ, i64_w, i32_w]
        rfl
      refine pure_ (i := 7) (N := some 85) (v := ?_) (a' := ?_) #[true, true, true, true, true, true, true, true, false, false, false, false, false, false, false, false, false, false, false, false, false, false, false, false, false, false, false, false, false, false, false, false, false, false, false, false, false, false, false, false] rfl rfl (any_of rfl (by kernel_rfl)) (fun _ _ _ h => h) (Or.inl ⟨by rfl, ?_⟩) ?_ ?_
      rotate_left
      · intro w'
        go_simp
        with_reducible rfl
      rotate_left
      · simp only [Act.put, setIfInBounds_toArray, set_cons_zero, set_cons_succ, i64_w, i32_w]
        rfl
      refine pure_ (i := 8) (N := some 86) (v := ?_) (a' := ?_) #[true, true, true, true, true, true, true, true, true, false, false, false, false, false, false, false, false, false, false, false, false, false, false, false, false, false, false, false, false, false, false, false, false, false, false, false, false, false, false, false] rfl rfl (any_of rfl (by kernel_rfl)) (fun _ _ _ h => h) (Or.inl ⟨by rfl, ?_⟩) ?_ ?_
      rotate_left
      · intro w'
        go_simp
        with_reducible rfl
      rotate_left
      · simp only [Act.put, setIfInBounds_toArray, set_cons_zero, set_cons_succ, i64_w, i32_w]
        rfl
      refine take_ (i := 9) (N := some 87) (v := ?_) (a' := ?_) #[true, true, true, true, true, true, true, true, true, true, false, false, false, false, false, false, false, false, false, false, false, false, false, false, false, false, false, false, false, false, false, false, false, false, false, false, false, false, false, false] rfl rfl (take_of rfl (by kernel_rfl)) (fun _ _ _ h => h) (Or.inl ⟨by rfl, ?_⟩) hHeld ?_ ?_
      rotate_left
      · rintro w' ⟨⟨q0, q1⟩, ⟨q2, q3⟩, q4, q5⟩
        go_simp
        with_reducible rfl
      rotate_left
      · simp only [Act.put, setIfInBounds_toArray, set_cons_zero, set_cons_succ, i64_w, i32_w]
        rfl
      refine take_ (i := 11) (N := some 89) (v := ?_) (a' := ?_) #[true, true, true, true, true, true, true, true, true, true, false, true, false, false, false, false, false, false, false, false, false, false, false, false, false, false, false, false, false, false, false, false, false, false, false, false, false, false, false, false] rfl rfl (take_of rfl (by kernel_rfl)) (fun _ _ _ h => h) (Or.inl ⟨by rfl, ?_⟩) hHeld ?_ ?_
      rotate_left
      · rintro w' ⟨⟨q0, q1⟩, ⟨q2, q3⟩, q4, q5⟩
        go_simp
        with_reducible rfl
      rotate_left
      · simp only [Act.put, setIfInBounds_toArray, set_cons_zero, set_cons_succ, i64_w, i32_w]
        rfl
      refine take_ (i := 12) (N := some 90) (v := ?_) (a' := ?_) #[true, true, true, true, true, true, true, true, true, true, false, true, true, false, false, false, false, false, false, false, false, false, false, false, false, false, false, false, false, false, false, false, false, false, false, false, false, false, false, false] rfl rfl (take_of rfl (by kernel_rfl)) (fun _ _ _ h => h) (Or.inl ⟨by rfl, ?_⟩) hHeld ?_ ?_
      rotate_left
      · rintro w' ⟨⟨q0, q1⟩, ⟨q2, q3⟩, q4, q5⟩
        go_simp
        with_reducible rfl
      rotate_left
      · simp only [Act.put, setIfInBounds_toArray, set_cons_zero, set_cons_succ, i64_w, i32_w]
        rfl
      refine one_ (i := 10) (N := some 88) #[true, true, true, true, true, true, true, true, true, true, true, true, true, false, false, false, false, false, false, false, false, false, false, false, false, false, false, false, false, false, false, false, false, false, false, false, false, false, false, false] rfl rfl (one_of rfl (by kernel_rfl)) (by decide) (fun K hK => ?_)
      refine goes_ Tryz.func26 (by kernel_rfl) rfl #[.agg #[.int .u64 Y, .string ⟨#[]⟩]] (by rfl) rfl rfl (by first | rfl | (simp only [map_toArray, map_nil]; done) | ((try simp only [map_toArray, map_cons, map_nil]); rfl)) ?_
      refine (HSY.out _).mono ?_
      rintro e w2 ⟨rfl, hb⟩
      refine ⟨_, rfl, ?_⟩
      have m3 := below_step m2 hb
      refine hK.out _ _ (s3 BP.out BQ.out BN.out m3) (fun hHeld => ?_)
      clear hK K
      refine norm_ (a' := ?_) ?_ ?_
      rotate_left
      · show Act.put _ (some 88) _ = _
        simp only [Act.put, setIfInBounds_toArray, set_cons_zero, set_cons_succ, i64_w, i32_w]
        rfl
      clear hb m2
      refine pure_ (i := 13) (N := some 91) (v := ?_) (a' := ?_) #[true, true, true, true, true, true, true, true, true, true, true, true, true, true, false, false, false, false, false, false, false, false, false, false, false, false, false, false, false, false, false, false, false, false, false, false, false, false, false, false] rfl rfl (any_of rfl (by kernel_rfl)) (fun _ _ _ h => h) (Or.inl ⟨by rfl, ?_⟩) ?_ ?_
      rotate_left
      · intro w'
        go_simp
        with_reducible rfl
      rotate_left
      · simp only [Act.put, setIfInBounds_toArray, set_cons_zero, set_cons_succ, i64_w, i32_w]
        rfl
      refine pure_ (i := 14) (N := some 92) (v := ?_) (a' := ?_) #[true, true, true, true, true, true, true, true, true, true, true, true, true, true, true, false, false, false, false, false, false, false, false, false, false, false, false, false, false, false, false, false, false, false, false, false, false, false, false, false] rfl rfl (any_of rfl (by kernel_rfl)) (fun _ _ _ h => h) (Or.inl ⟨by rfl, ?_⟩) ?_ ?_
      rotate_left
      · intro w'
        go_simp
        with_reducible rfl
      rotate_left
      · simp only [Act.put, setIfInBounds_toArray, set_cons_zero, set_cons_succ, i64_w, i32_w]
        rfl
      refine pure_ (i := 15) (N := some 93) (v := ?_) (a' := ?_) #[true, true, true, true, true, true, true, true, true, true, true, true, true, true, true, true, false, false, false, false, false, false, false, false, false, false, false, false, false, false, false, false, false, false, false, false, false, false, false, false] rfl rfl (any_of rfl (by kernel_rfl)) (fun _ _ _ h => h) (Or.inl ⟨by rfl, ?_⟩) ?_ ?_
      rotate_left
      · intro w'
        go_simp
        with_reducible rfl
      rotate_left
      · simp only [Act.put, setIfInBounds_toArray, set_cons_zero, set_cons_succ, i64_w, i32_w]
        rfl
      refine take_ (i := 16) (N := some 94) (v := ?_) (a' := ?_) #[true, true, true, true, true, true, true, true, true, true, true, true, true, true, true, true, true, false, false, false, false, false, false, false, false, false, false, false, false, false, false, false, false, false, false, false, false, false, false, false] rfl rfl (take_of rfl (by kernel_rfl)) (fun _ _ _ h => h) (Or.inl ⟨by rfl, ?_⟩) hHeld ?_ ?_
      rotate_left
      · rintro w' ⟨⟨q0, q1⟩, ⟨q2, q3⟩, q4, q5⟩
        go_simp
        with_reducible rfl
      rotate_left
      · simp only [Act.put, setIfInBounds_toArray, set_cons_zero, set_cons_succ, i64_w, i32_w]
        rfl
      refine take_ (i := 17) (N := some 95) (v := ?_) (a' := ?_) #[true, true, true, true, true, true, true, true, true, true, true, true, true, true, true, true, true, true, false, false, false, false, false, false, false, false, false, false, false, false, false, false, false, false, false, false, false, false, false, false] rfl rfl (take_of rfl (by kernel_rfl)) (fun _ _ _ h => h) (Or.inl ⟨by rfl, ?_⟩) hHeld ?_ ?_
      rotate_left
      · rintro w' ⟨⟨q0, q1⟩, ⟨q2, q3⟩, q4, q5⟩
        go_simp
        with_reducible rfl
      rotate_left
      · simp only [Act.put, setIfInBounds_toArray, set_cons_zero, set_cons_succ, i64_w, i32_w]
        rfl
      refine take_ (i := 20) (N := some 98) (v := ?_) (a' := ?_) #[true, true, true, true, true, true, true, true, true, true, true, true, true, true, true, true, true, true, false, false, true, false, false, false, false, false, false, false, false, false, false, false, false, false, false, false, false, false, false, false] rfl rfl (take_of rfl (by kernel_rfl)) (fun _ _ _ h => h) (Or.inl ⟨by rfl, ?_⟩) hHeld ?_ ?_
      rotate_left
      · rintro w' ⟨⟨q0, q1⟩, ⟨q2, q3⟩, q4, q5⟩
        go_simp
        with_reducible rfl
      rotate_left
      · simp only [Act.put, setIfInBounds_toArray, set_cons_zero, set_cons_succ, i64_w, i32_w]
        rfl
      refine take_ (i := 21) (N := some 99) (v := ?_) (a' := ?_) #[true, true, true, true, true, true, true, true, true, true, true, true, true, true, true, true, true, true, false, false, true, true, false, false, false, false, false, false, false, false, false, false, false, false, false, false, false, false, false, false] rfl rfl (take_of rfl (by kernel_rfl)) (fun _ _ _ h => h) (Or.inl ⟨by rfl, ?_⟩) hHeld ?_ ?_
      rotate_left
      · rintro w' ⟨⟨q0, q1⟩, ⟨q2, q3⟩, q4, q5⟩
        go_simp
        with_reducible rfl
      rotate_left
      · simp only [Act.put, setIfInBounds_toArray, set_cons_zero, set_cons_succ, i64_w, i32_w]
        rfl
      refine take_ (i := 22) (N := some 100) (v := ?_) (a' := ?_) #[true, true, true, true, true, true, true, true, true, true, true, true, true, true, true, true, true, true, false, false, true, true, true, false, false, false, false, false, false, false, false, false, false, false, false, false, false, false, false, false] rfl rfl (take_of rfl (by kernel_rfl)) (fun _ _ _ h => h) (Or.inl ⟨by rfl, ?_⟩) hHeld ?_ ?_
      rotate_left
      · rintro w' ⟨⟨q0, q1⟩, ⟨q2, q3⟩, q4, q5⟩
        go_simp
        with_reducible rfl
      rotate_left
      · simp only [Act.put, setIfInBounds_toArray, set_cons_zero, set_cons_succ, i64_w, i32_w]
        rfl
      refine take_ (i := 23) (N := some 101) (v := ?_) (a' := ?_) #[true, true, true, true, true, true, true, true, true, true, true, true, true, true, true, true, true, true, false, false, true, true, true, true, false, false, false, false, false, false, false, false, false, false, false, false, false, false, false, false] rfl rfl (take_of rfl (by kernel_rfl)) (fun _ _ _ h => h) (Or.inl ⟨by rfl, ?_⟩) hHeld ?_ ?_
      rotate_left
      · rintro w' ⟨⟨q0, q1⟩, ⟨q2, q3⟩, q4, q5⟩
        go_simp
        with_reducible rfl
      rotate_left
      · simp only [Act.put, setIfInBounds_toArray, set_cons_zero, set_cons_succ, i64_w, i32_w]
        rfl
      refine pure_ (i := 24) (N := some 102) (v := ?_) (a' := ?_) #[true, true, true, true, true, true, true, true, true, true, true, true, true, true, true, true, true, true, false, false, true, true, true, true, true, false, false, false, false, false, false, false, false, false, false, false, false, false, false, false] rfl rfl (any_of rfl (by kernel_rfl)) (fun _ _ _ h => h) (Or.inl ⟨by rfl, ?_⟩) ?_ ?_
      rotate_left
      · intro w'
        go_simp
        with_reducible rfl
      rotate_left
      · simp only [Act.put, setIfInBounds_toArray, set_cons_zero, set_cons_succ, i64_w, i32_w]
        rfl
      refine one_ (i := 18) (N := some 96) #[true, true, true, true, true, true, true, true, true, true, true, true, true, true, true, true, true, true, true, false, true, true, true, true, true, false, false, false, false, false, false, false, false, false, false, false, false, false, false, false] rfl rfl (one_of rfl (by kernel_rfl)) (by decide) (fun K hK => ?_)
      refine goes_ Tryz.func27 (by kernel_rfl) rfl #[.int .i64 0, .agg #[.int .u64 X, .string ⟨#[]⟩], .agg #[.int .u64 Y, .string ⟨#[]⟩]] (by rfl) rfl rfl (by first | rfl | (simp only [map_toArray, map_nil]; done) | ((try simp only [map_toArray, map_cons, map_nil]); rfl)) ?_
      refine (H0.out _ (below_step HB.out m3)).mono ?_
      rintro e w2 ⟨rfl, hb⟩
      refine ⟨_, rfl, ?_⟩
      have m4 := below_step m3 hb
      refine hK.out _ _ (s3 BP.out BQ.out BN.out m4) (fun hHeld => ?_)
      clear hK K
      refine norm_ (a' := ?_) ?_ ?_
      rotate_left
      · show Act.put _ (some 96) _ = _
        simp only [Act.put, setIfInBounds_toArray, set_cons_zero, set_cons_succ, i64_w, i32_w]
        rfl
      clear hb m3
      refine pure_ (i := 19) (N := some 97) (v := ?_) (a' := ?_) #[true, true, true, true, true, true, true, true, true, true, true, true, true, true, true, true, true, true, true, true, true, true, true, true, true, false, false, false, false, false, false, false, false, false, false, false, false, false, false, false] rfl rfl (any_of rfl (by kernel_rfl)) (fun _ _ _ h => h) (Or.inl ⟨by rfl, ?_⟩) ?_ ?_
      rotate_left
      · intro w'
        go_simp
        with_reducible rfl
      rotate_left
      · simp only [Act.put, setIfInBounds_toArray, set_cons_zero, set_cons_succ, i64_w, i32_w]
        rfl
      refine pure_ (i := 25) (N := some 103) (v := ?_) (a' := ?_) #[true, true, true, true, true, true, true, true, true, true, true, true, true, true, true, true, true, true, true, true, true, true, true, true, true, true, false, false, false, false, false, false, false, false, false, false, false, false, false, false] rfl rfl (any_of rfl (by kernel_rfl)) (fun _ _ _ h => h) (Or.inl ⟨by rfl, ?_⟩) ?_ ?_
      rotate_left
      · intro w'
        go_simp
        with_reducible rfl
      rotate_left
      · simp only [Act.put, setIfInBounds_toArray, set_cons_zero, set_cons_succ, i64_w, i32_w]
        rfl
      refine pure_ (i := 26) (N := some 104) (v := ?_) (a' := ?_) #[true, true, true, true, true, true, true, true, true, true, true, true, true, true, true, true, true, true, true, true, true, true, true, true, true, true, true, false, false, false, false, false, false, false, false, false, false, false, false, false] rfl rfl (any_of rfl (by kernel_rfl)) (fun _ _ _ h => h) (Or.inl ⟨by rfl, ?_⟩) ?_ ?_
      rotate_left
      · intro w'
        go_simp
        with_reducible rfl
      rotate_left
      · simp only [Act.put, setIfInBounds_toArray, set_cons_zero, set_cons_succ, i64_w, i32_w]
        rfl
      refine pure_ (i := 27) (N := some 105) (v := ?_) (a' := ?_) #[true, true, true, true, true, true, true, true, true, true, true, true, true, true, true, true, true, true, true, true, true, true, true, true, true, true, true, true, false, false, false, false, false, false, false, false, false, false, false, false] rfl rfl (any_of rfl (by kernel_rfl)) (fun _ _ _ h => h) (Or.inl ⟨by rfl, ?_⟩) ?_ ?_
      rotate_left
      · intro w'
        go_simp
        with_reducible rfl
      rotate_left
      · simp only [Act.put, setIfInBounds_toArray, set_cons_zero, set_cons_succ, i64_w, i32_w]
        rfl
      refine take_ (i := 28) (N := some 106) (v := ?_) (a' := ?_) #[true, true, true, true, true, true, true, true, true, true, true, true, true, true, true, true, true, true, true, true, true, true, true, true, true, true, true, true, true, false, false, false, false, false, false, false, false, false, false, false] rfl rfl (take_of rfl (by kernel_rfl)) (fun _ _ _ h => h) (Or.inl ⟨by rfl, ?_⟩) hHeld ?_ ?_
      rotate_left
      · rintro w' ⟨⟨q0, q1⟩, ⟨q2, q3⟩, q4, q5⟩
        go_simp
        with_reducible rfl
      rotate_left
      · simp only [Act.put, setIfInBounds_toArray, set_cons_zero, set_cons_succ, i64_w, i32_w]
        rfl
      refine take_ (i := 29) (N := some 107) (v := ?_) (a' := ?_) #[true, true, true, true, true, true, true, true, true, true, true, true, true, true, true, true, true, true, true, true, true, true, true, true, true, true, true, true, true, true, false, false, false, false, false, false, false, false, false, false] rfl rfl (take_of rfl (by kernel_rfl)) (fun _ _ _ h => h) (Or.inl ⟨by rfl, ?_⟩) hHeld ?_ ?_
      rotate_left
      · rintro w' ⟨⟨q0, q1⟩, ⟨q2, q3⟩, q4, q5⟩
        go_simp
        with_reducible rfl
      rotate_left
      · simp only [Act.put, setIfInBounds_toArray, set_cons_zero, set_cons_succ, i64_w, i32_w]
        rfl
      refine take_ (i := 32) (N := some 110) (v := ?_) (a' := ?_) #[true, true, true, true, true, true, true, true, true, true, true, true, true, true, true, true, true, true, true, true, true, true, true, true, true, true, true, true, true, true, false, false, true, false, false, false, false, false, false, false] rfl rfl (take_of rfl (by kernel_rfl)) (fun _ _ _ h => h) (Or.inl ⟨by rfl, ?_⟩) hHeld ?_ ?_
      rotate_left
      · rintro w' ⟨⟨q0, q1⟩, ⟨q2, q3⟩, q4, q5⟩
        go_simp
        with_reducible rfl
      rotate_left
      · simp only [Act.put, setIfInBounds_toArray, set_cons_zero, set_cons_succ, i64_w, i32_w]
        rfl
      refine take_ (i := 33) (N := some 111) (v := ?_) (a' := ?_) #[true, true, true, true, true, true, true, true, true, true, true, true, true, true, true, true, true, true, true, true, true, true, true, true, true, true, true, true, true, true, false, false, true, true, false, false, false, false, false, false] rfl rfl (take_of rfl (by kernel_rfl)) (fun _ _ _ h => h) (Or.inl ⟨by rfl, ?_⟩) hHeld ?_ ?_
      rotate_left
      · rintro w' ⟨⟨q0, q1⟩, ⟨q2, q3⟩, q4, q5⟩
        go_simp
        with_reducible rfl
      rotate_left
      · simp only [Act.put, setIfInBounds_toArray, set_cons_zero, set_cons_succ, i64_w, i32_w]
        rfl
      refine take_ (i := 34) (N := some 112) (v := ?_) (a' := ?_) #[true, true, true, true, true, true, true, true, true, true, true, true, true, true, true, true, true, true, true, true, true, true, true, true, true, true, true, true, true, true, false, false, true, true, true, false, false, false, false, false] rfl rfl (take_of rfl (by kernel_rfl)) (fun _ _ _ h => h) (Or.inl ⟨by rfl, ?_⟩) hHeld ?_ ?_
      rotate_left
      · rintro w' ⟨⟨q0, q1⟩, ⟨q2, q3⟩, q4, q5⟩
        go_simp
        with_reducible rfl
      rotate_left
      · simp only [Act.put, setIfInBounds_toArray, set_cons_zero, set_cons_succ, i64_w, i32_w]
        rfl
      refine take_ (i := 35) (N := some 113) (v := ?_) (a' := ?_) #[true, true, true, true, true, true, true, true, true, true, true, true, true, true, true, true, true, true, true, true, true, true, true, true, true, true, true, true, true, true, false, false, true, true, true, true, false, false, false, false] rfl rfl (take_of rfl (by kernel_rfl)) (fun _ _ _ h => h) (Or.inl ⟨by rfl, ?_⟩) hHeld ?_ ?_
      rotate_left
      · rintro w' ⟨⟨q0, q1⟩, ⟨q2, q3⟩, q4, q5⟩
        go_simp
        with_reducible rfl
      rotate_left
      · simp only [Act.put, setIfInBounds_toArray, set_cons_zero, set_cons_succ, i64_w, i32_w]
        rfl
      refine pure_ (i := 36) (N := some 114) (v := ?_) (a' := ?_) #[true, true, true, true, true, true, true, true, true, true, true, true, true, true, true, true, true, true, true, true, true, true, true, true, true, true, true, true, true, true, false, false, true, true, true, true, true, false, false, false] rfl rfl (any_of rfl (by kernel_rfl)) (fun _ _ _ h => h) (Or.inl ⟨by rfl, ?_⟩) ?_ ?_
      rotate_left
      · intro w'
        go_simp
        with_reducible rfl
      rotate_left
      · simp only [Act.put, setIfInBounds_toArray, set_cons_zero, set_cons_succ, i64_w, i32_w]
        rfl
      refine one_ (i := 30) (N := some 108) #[true, true, true, true, true, true, true, true, true, true, true, true, true, true, true, true, true, true, true, true, true, true, true, true, true, true, true, true, true, true, true, false, true, true, true, true, true, false, false, false] rfl rfl (one_of rfl (by kernel_rfl)) (by decide) (fun K hK => ?_)
      refine goes_ Tryz.func27 (by kernel_rfl) rfl #[.int .i64 0, .agg #[.int .u64 X, .string ⟨#[]⟩], .agg #[.int .u64 Y, .string ⟨#[]⟩]] (by rfl) rfl rfl (by first | rfl | (simp only [map_toArray, map_nil]; done) | ((try simp only [map_toArray, map_cons, map_nil]); rfl)) ?_
      refine (H0.out _ (below_step HB.out m4)).mono ?_
      rintro e w2 ⟨rfl, hb⟩
      refine ⟨_, rfl, ?_⟩
      have m5 := below_step m4 hb
      refine hK.out _ _ (s3 BP.out BQ.out BN.out m5) (fun hHeld => ?_)
      clear hK K
      refine norm_ (a' := ?_) ?_ ?_
      rotate_left
      · show Act.put _ (some 108) _ = _
        simp only [Act.put, setIfInBounds_toArray, set_cons_zero, set_cons_succ, i64_w, i32_w]
        rfl
      clear hb m4
      refine pure_ (i := 31) (N := some 109) (v := ?_) (a' := ?_) #[true, true, true, true, true, true, true, true, true, true, true, true, true, true, true, true, true, true, true, true, true, true, true, true, true, true, true, true, true, true, true, true, true, true, true, true, true, false, false, false] rfl rfl (any_of rfl (by kernel_rfl)) (fun _ _ _ h => h) (Or.inl ⟨by rfl, ?_⟩) ?_ ?_
      rotate_left
      · intro w'
        go_simp
        with_reducible rfl
      rotate_left
      · simp only [Act.put, setIfInBounds_toArray, set_cons_zero, set_cons_succ, i64_w, i32_w]
        rfl
      refine pure_ (i := 37) (N := some 115) (v := ?_) (a' := ?_) #[true, true, true, true, true, true, true, true, true, true, true, true, true, true, true, true, true, true, true, true, true, true, true, true, true, true, true, true, true, true, true, true, true, true, true, true, true, true, false, false] rfl rfl (any_of rfl (by kernel_rfl)) (fun _ _ _ h => h) (Or.inl ⟨by rfl, ?_⟩) ?_ ?_
      rotate_left
      · intro w'
        go_simp
        with_reducible rfl
      rotate_left
      · simp only [Act.put, setIfInBounds_toArray, set_cons_zero, set_cons_succ, i64_w, i32_w]
        rfl
      refine pure_ (i := 38) (N := some 116) (v := ?_) (a' := ?_) #[true, true, true, true, true, true, true, true, true, true, true, true, true, true, true, true, true, true, true, true, true, true, true, true, true, true, true, true, true, true, true, true, true, true, true, true, true, true, true, false] rfl rfl (any_of rfl (by kernel_rfl)) (fun _ _ _ h => h) (Or.inl ⟨by rfl, ?_⟩) ?_ ?_
      rotate_left
      · intro w'
        go_simp
        with_reducible rfl
      rotate_left
      · simp only [Act.put, setIfInBounds_toArray, set_cons_zero, set_cons_succ, i64_w, i32_w]
        rfl
      refine pure_ (i := 39) (N := some 6) (v := ?_) (a' := ?_) #[true, true, true, true, true, true, true, true, true, true, true, true, true, true, true, true, true, true, true, true, true, true, true, true, true, true, true, true, true, true, true, true, true, true, true, true, true, true, true, true] rfl rfl (any_of rfl (by kernel_rfl)) (fun _ _ _ h => h) (Or.inl ⟨by rfl, ?_⟩) ?_ ?_
      rotate_left
      · intro w'
        go_simp
        with_reducible rfl
      rotate_left
      · simp only [Act.put, setIfInBounds_toArray, set_cons_zero, set_cons_succ, i64_w, i32_w]
        rfl
      refine done_ (done_of rfl (by kernel_rfl)) ?_
      have hfin := below_step HB.out m5
      go_wp2_with fail
      go_ret
      exact ⟨rfl, hfin⟩
    · have t6 : (er == 0) = false := beq_eq_false_iff_ne.mpr her
      clear her hcr hls hm hT hBt hU hE
      go_wp2_with fail
      refine (HRD.out _ HB.out).mono ?_
      rintro e w6 ⟨rfl, hb⟩
      replace BC := Aside0.mk (blk_below BC.out hb)
      replace BN := Aside0.mk (blk_below BN.out hb)
      replace HB := Aside0.mk (below_step HB.out hb)
      clear hb
      go_wp2_with (first | ((with_reducible refine gate_dst (N := 12) rfl ?_); refine box_event ?hg (N := 12) ?hd (cs := #[.int .u64 0, .string (⟨#[]⟩ : ByteArray)]) (t := 24) ?hr ?_; (case hd => rfl); (case hg => rfl); (case hr => first | (go_simp; done) | (go_simp; rfl)); intro g hg wb hbox hb; have hpc := blk_lt BC.out; have hpn := blk_lt BN.out; replace HB := Aside0.mk (below_step HB.out hb); replace BC := Aside0.mk (blk_below BC.out hb); replace BN := Aside0.mk (blk_below BN.out hb); have BG := Aside0.mk hbox; have HG := Aside0.mk (show w.heap.size ≤ g from by omega); have NE := Aside0.mk (show w.heap.size ≠ g ∧ w.heap.size + 1 ≠ g from ⟨by omega, by omega⟩); clear hpc hpn hb; obtain ⟨c0, c1, f0, f1, c2, f2⟩ := put_facts BG.out (.int .u64 0); clear hbox hg))
      obtain ⟨W', hW'⟩ : ∃ W, (wb.setCell ⟨g, 0, none⟩ (.int .u64 n)).setCell ⟨g, 1, none⟩ (.string t) = W := ⟨_, rfl⟩
      rw [hW']
      have pc := put_cell BG.out (.int .u64 n) (.string t)
      have hbs := below_set (j := 1) (v := .string t) (below_set (j := 0) (v := .int .u64 n) HB.out HG.out) HG.out
      rw [hW'] at pc hbs
      replace HB := Aside0.mk hbs
      replace BN := Aside0.mk ((pc.2 _ NE.out.2).trans BN.out)
      clear pc hbs hW' c0 c1 f0 f1 c2 f2 BC BG HG NE
      replace BN := Aside0.mk (show W'.drew.heap[w.heap.size + 1]? = some (.cells #[.int .i64 x, .int .i64 y] 36 (0, 0)) from BN.out)
      replace HB := Aside0.mk (below_drew1 HB.out)
      refine start_ (n := 10) (S := Two (w.heap.size + 1) x y) (ds := []) #[false, false, false, false, false, false, false, false, false, false] (by kernel_rfl) rfl rfl (two BN.out (Below.refl _ _)) (fun hHeld => ?_)
      generalize W'.drew = V at *
      clear W'
      refine take_ (i := 0) (N := some 72) (v := ?_) (a' := ?_) #[true, false, false, false, false, false, false, false, false, false] rfl rfl (take_of rfl (by kernel_rfl)) (fun _ _ _ h => h) (Or.inl ⟨by rfl, ?_⟩) hHeld ?_ ?_
      rotate_left
      · rintro w' ⟨q0, q1⟩
        go_simp
        with_reducible rfl
      rotate_left
      · simp only [Act.put, setIfInBounds_toArray, set_cons_zero, set_cons_succ, i64_w, i32_w]
        rfl
      refine take_ (i := 3) (N := some 75) (v := ?_) (a' := ?_) #[true, false, false, true, false, false, false, false, false, false] rfl rfl (take_of rfl (by kernel_rfl)) (fun _ _ _ h => h) (Or.inl ⟨by rfl, ?_⟩) hHeld ?_ ?_
      rotate_left
      · rintro w' ⟨q0, q1⟩
        go_simp
        with_reducible rfl
      rotate_left
      · simp only [Act.put, setIfInBounds_toArray, set_cons_zero, set_cons_succ, i64_w, i32_w]
        rfl
      refine take_ (i := 1) (N := some 73) (v := ?_) (a' := ?_) #[true, true, false, true, false, false, false, false, false, false] rfl rfl (take_of rfl (by kernel_rfl)) (fun _ _ _ h => h) (Or.inl ⟨by rfl, ?_⟩) hHeld ?_ ?_
      rotate_left
      · rintro w' ⟨q0, q1⟩
        go_simp
        with_reducible rfl
      rotate_left
      · simp only [Act.put, setIfInBounds_toArray, set_cons_zero, set_cons_succ, i64_w, i32_w]
        rfl
      refine take_ (i := 4) (N := some 76) (v := ?_) (a' := ?_) #[true, true, false, true, true, false, false, false, false, false] rfl rfl (take_of rfl (by kernel_rfl)) (fun _ _ _ h => h) (Or.inl ⟨by rfl, ?_⟩) hHeld ?_ ?_
      rotate_left
      · rintro w' ⟨q0, q1⟩
        go_simp
        with_reducible rfl
      rotate_left
      · simp only [Act.put, setIfInBounds_toArray, set_cons_zero, set_cons_succ, i64_w, i32_w]
        rfl
      refine join_ (σ := Nat × Nat) 2 #[true, true, true, true, true, true, true, true, false, false] (fun s => [(74, .agg #[.int .u64 X, .string ⟨#[]⟩]), (77, .agg #[.int .u64 Y, .string ⟨#[]⟩]), (16, .pointer (some ⟨s.1, 0, none⟩)), (17, .pointer (some ⟨s.2, 0, none⟩))]) (fun s w' => Z2 V w' s.1 s.2) ?_ (fun hcont => ?_)
      rotate_left
      · refine three_ (i := 2) (j := 6) (k := 7) (Ni := some 74) (Nj := some 16) (Nk := some 17) #[true, true, true, true, true, false, false, false, false, false] #[true, true, false, true, true, false, true, false, false, false] #[true, true, false, true, true, false, false, true, false, false] rfl rfl rfl rfl rfl rfl (three_of rfl (by kernel_rfl)) (by decide) (by decide) (by decide) (fun K hK => ?_) (fun K hK => ?_) (fun K hK => ?_)
        · refine goes_ Tryz.func25 (by kernel_rfl) rfl #[.int .i64 x] (by rfl) rfl rfl (by (try simp only [map_toArray, map_cons, map_nil]); rfl) ?_
          refine (HIX.out _).mono ?_
          rintro e U0 ⟨rfl, hc⟩
          refine ⟨_, rfl, ?_⟩
          have hb0 := below_step (Below.refl V.heap.size V) hc
          refine hK.out _ _ (two BN.out hb0) (fun _ => ?_)
          clear hK K hc
          refine norm_ (a' := ?_) ?_ ?_
          rotate_left
          · show Act.put _ (some 74) _ = _
            simp only [Act.put, setIfInBounds_toArray, set_cons_zero, set_cons_succ, i64_w, i32_w]
            rfl
          refine three_ (i := 5) (j := 6) (k := 7) (Ni := some 77) (Nj := some 16) (Nk := some 17) #[true, true, true, true, true, true, false, false, false, false] #[true, true, true, true, true, false, true, false, false, false] #[true, true, true, true, true, false, false, true, false, false] rfl rfl rfl rfl rfl rfl (three_of rfl (by kernel_rfl)) (by decide) (by decide) (by decide) (fun K hK => ?_) (fun K hK => ?_) (fun K hK => ?_)
          · refine goes_ Tryz.func25 (by kernel_rfl) rfl #[.int .i64 y] (by rfl) rfl rfl (by (try simp only [map_toArray, map_cons, map_nil]); rfl) ?_
            refine (HIY.out _).mono ?_
            rintro e U1 ⟨rfl, hc⟩
            refine ⟨_, rfl, ?_⟩
            have hb1 := below_step hb0 hc
            refine hK.out _ _ (two BN.out hb1) (fun _ => ?_)
            clear hK K hc
            refine norm_ (a' := ?_) ?_ ?_
            rotate_left
            · show Act.put _ (some 77) _ = _
              simp only [Act.put, setIfInBounds_toArray, set_cons_zero, set_cons_succ, i64_w, i32_w]
              rfl
            refine two_ (i := 6) (j := 7) (Ni := some 16) (Nj := some 17) #[true, true, true, true, true, true, true, false, false, false] #[true, true, true, true, true, true, false, true, false, false] rfl rfl rfl rfl (two_of rfl (by kernel_rfl)) (by decide) (by decide) (fun K hK => ?_) (fun K hK => ?_)
            · refine value_ (v := .pointer (some ⟨U1.heap.size, 0, none⟩)) (w1 := U1.alloc zc) (by rfl) rfl (by go_simp) ?_
              have z6 := heap_alloc_new U1 zc
              have g6 := hb1.size
              have hb2 := below_alloc hb1 zc
              refine hK.out _ _ (two BN.out hb2) (fun _ => ?_)
              clear hK K
              refine norm_ (a' := ?_) ?_ ?_
              rotate_left
              · show Act.put _ (some 16) _ = _
                simp only [Act.put, setIfInBounds_toArray, set_cons_zero, set_cons_succ, i64_w, i32_w]
                rfl
              obtain ⟨U2, hU2⟩ : ∃ u_, U1.alloc zc = u_ := ⟨_, rfl⟩
              rw [hU2] at z6 hb2 ⊢
              obtain ⟨p6, hp⟩ : ∃ p, U1.heap.size = p := ⟨_, rfl⟩
              rw [hp] at z6 g6  ⊢
              clear hU2 hp
              refine one_ (i := 7) (N := some 17) #[true, true, true, true, true, true, true, true, false, false] rfl rfl (one_of rfl (by kernel_rfl)) (by decide) (fun K hK => ?_)
              refine value_ (v := .pointer (some ⟨U2.heap.size, 0, none⟩)) (w1 := U2.alloc zc) (by rfl) rfl (by go_simp) ?_
              have z7 := heap_alloc_new U2 zc
              have g7 := hb2.size
              have ne : p6 ≠ U2.heap.size := Nat.ne_of_lt (blk_lt z6)
              replace z6 := blk_alloc z6 zc
              have hb3 := below_alloc hb2 zc
              refine hK.out _ _ (two BN.out hb3) (fun _ => ?_)
              clear hK K
              refine norm_ (a' := ?_) ?_ ?_
              rotate_left
              · show Act.put _ (some 17) _ = _
                simp only [Act.put, setIfInBounds_toArray, set_cons_zero, set_cons_succ, i64_w, i32_w]
                rfl
              obtain ⟨U3, hU2⟩ : ∃ u_, U2.alloc zc = u_ := ⟨_, rfl⟩
              rw [hU2] at z7 hb3 z6 ⊢
              obtain ⟨p7, hp⟩ : ∃ p, U2.heap.size = p := ⟨_, rfl⟩
              rw [hp] at z7 g7 ne ⊢
              clear hU2 hp
              exact hcont (p6, p7) _ ⟨z6, z7, ne, ⟨g6, g7⟩, hb3⟩
            · refine value_ (v := .pointer (some ⟨U1.heap.size, 0, none⟩)) (w1 := U1.alloc zc) (by rfl) rfl (by go_simp) ?_
              have z7 := heap_alloc_new U1 zc
              have g7 := hb1.size
              have hb2 := below_alloc hb1 zc
              refine hK.out _ _ (two BN.out hb2) (fun _ => ?_)
              clear hK K
              refine norm_ (a' := ?_) ?_ ?_
              rotate_left
              · show Act.put _ (some 17) _ = _
                simp only [Act.put, setIfInBounds_toArray, set_cons_zero, set_cons_succ, i64_w, i32_w]
                rfl
              obtain ⟨U2, hU2⟩ : ∃ u_, U1.alloc zc = u_ := ⟨_, rfl⟩
              rw [hU2] at z7 hb2 ⊢
              obtain ⟨p7, hp⟩ : ∃ p, U1.heap.size = p := ⟨_, rfl⟩
              rw [hp] at z7 g7  ⊢
              clear hU2 hp
              refine one_ (i := 6) (N := some 16) #[true, true, true, true, true, true, true, true, false, false] rfl rfl (one_of rfl (by kernel_rfl)) (by decide) (fun K hK => ?_)
              refine value_ (v := .pointer (some ⟨U2.heap.size, 0, none⟩)) (w1 := U2.alloc zc) (by rfl) rfl (by go_simp) ?_
              have z6 := heap_alloc_new U2 zc
              have g6 := hb2.size
              have ne : p7 ≠ U2.heap.size := Nat.ne_of_lt (blk_lt z7)
              replace z7 := blk_alloc z7 zc
              have hb3 := below_alloc hb2 zc
              refine hK.out _ _ (two BN.out hb3) (fun _ => ?_)
              clear hK K
              refine norm_ (a' := ?_) ?_ ?_
              rotate_left
              · show Act.put _ (some 16) _ = _
                simp only [Act.put, setIfInBounds_toArray, set_cons_zero, set_cons_succ, i64_w, i32_w]
                rfl
              obtain ⟨U3, hU2⟩ : ∃ u_, U2.alloc zc = u_ := ⟨_, rfl⟩
              rw [hU2] at z6 hb3 z7 ⊢
              obtain ⟨p6, hp⟩ : ∃ p, U2.heap.size = p := ⟨_, rfl⟩
              rw [hp] at z6 g6 ne ⊢
              clear hU2 hp
              exact hcont (p6, p7) _ ⟨z6, z7, (fun h => ne h.symm), ⟨g6, g7⟩, hb3⟩
          · refine value_ (v := .pointer (some ⟨U0.heap.size, 0, none⟩)) (w1 := U0.alloc zc) (by rfl) rfl (by go_simp) ?_
            have z6 := heap_alloc_new U0 zc
            have g6 := hb0.size
            have hb1 := below_alloc hb0 zc
            refine hK.out _ _ (two BN.out hb1) (fun _ => ?_)
            clear hK K
            refine norm_ (a' := ?_) ?_ ?_
            rotate_left
            · show Act.put _ (some 16) _ = _
              simp only [Act.put, setIfInBounds_toArray, set_cons_zero, set_cons_succ, i64_w, i32_w]
              rfl
            obtain ⟨U1, hU2⟩ : ∃ u_, U0.alloc zc = u_ := ⟨_, rfl⟩
            rw [hU2] at z6 hb1 ⊢
            obtain ⟨p6, hp⟩ : ∃ p, U0.heap.size = p := ⟨_, rfl⟩
            rw [hp] at z6 g6  ⊢
            clear hU2 hp
            refine two_ (i := 5) (j := 7) (Ni := some 77) (Nj := some 17) #[true, true, true, true, true, true, true, false, false, false] #[true, true, true, true, true, false, true, true, false, false] rfl rfl rfl rfl (two_of rfl (by kernel_rfl)) (by decide) (by decide) (fun K hK => ?_) (fun K hK => ?_)
            · refine goes_ Tryz.func25 (by kernel_rfl) rfl #[.int .i64 y] (by rfl) rfl rfl (by (try simp only [map_toArray, map_cons, map_nil]); rfl) ?_
              refine (HIY.out _).mono ?_
              rintro e U2 ⟨rfl, hc⟩
              refine ⟨_, rfl, ?_⟩
              have hb2 := below_step hb1 hc
              replace z6 := blk_below z6 hc
              refine hK.out _ _ (two BN.out hb2) (fun _ => ?_)
              clear hK K hc
              refine norm_ (a' := ?_) ?_ ?_
              rotate_left
              · show Act.put _ (some 77) _ = _
                simp only [Act.put, setIfInBounds_toArray, set_cons_zero, set_cons_succ, i64_w, i32_w]
                rfl
              refine one_ (i := 7) (N := some 17) #[true, true, true, true, true, true, true, true, false, false] rfl rfl (one_of rfl (by kernel_rfl)) (by decide) (fun K hK => ?_)
              refine value_ (v := .pointer (some ⟨U2.heap.size, 0, none⟩)) (w1 := U2.alloc zc) (by rfl) rfl (by go_simp) ?_
              have z7 := heap_alloc_new U2 zc
              have g7 := hb2.size
              have ne : p6 ≠ U2.heap.size := Nat.ne_of_lt (blk_lt z6)
              replace z6 := blk_alloc z6 zc
              have hb3 := below_alloc hb2 zc
              refine hK.out _ _ (two BN.out hb3) (fun _ => ?_)
              clear hK K
              refine norm_ (a' := ?_) ?_ ?_
              rotate_left
              · show Act.put _ (some 17) _ = _
                simp only [Act.put, setIfInBounds_toArray, set_cons_zero, set_cons_succ, i64_w, i32_w]
                rfl
              obtain ⟨U3, hU2⟩ : ∃ u_, U2.alloc zc = u_ := ⟨_, rfl⟩
              rw [hU2] at z7 hb3 z6 ⊢
              obtain ⟨p7, hp⟩ : ∃ p, U2.heap.size = p := ⟨_, rfl⟩
              rw [hp] at z7 g7 ne ⊢
              clear hU2 hp
              exact hcont (p6, p7) _ ⟨z6, z7, ne, ⟨g6, g7⟩, hb3⟩
            · refine value_ (v := .pointer (some ⟨U1.heap.size, 0, none⟩)) (w1 := U1.alloc zc) (by rfl) rfl (by go_simp) ?_
              have z7 := heap_alloc_new U1 zc
              have g7 := hb1.size
              have ne : p6 ≠ U1.heap.size := Nat.ne_of_lt (blk_lt z6)
              replace z6 := blk_alloc z6 zc
              have hb2 := below_alloc hb1 zc
              refine hK.out _ _ (two BN.out hb2) (fun _ => ?_)
              clear hK K
              refine norm_ (a' := ?_) ?_ ?_
              rotate_left
              · show Act.put _ (some 17) _ = _
                simp only [Act.put, setIfInBounds_toArray, set_cons_zero, set_cons_succ, i64_w, i32_w]
                rfl
              obtain ⟨U2, hU2⟩ : ∃ u_, U1.alloc zc = u_ := ⟨_, rfl⟩
              rw [hU2] at z7 hb2 z6 ⊢
              obtain ⟨p7, hp⟩ : ∃ p, U1.heap.size = p := ⟨_, rfl⟩
              rw [hp] at z7 g7 ne ⊢
              clear hU2 hp
              refine one_ (i := 5) (N := some 77) #[true, true, true, true, true, true, true, true, false, false] rfl rfl (one_of rfl (by kernel_rfl)) (by decide) (fun K hK => ?_)
              refine goes_ Tryz.func25 (by kernel_rfl) rfl #[.int .i64 y] (by rfl) rfl rfl (by (try simp only [map_toArray, map_cons, map_nil]); rfl) ?_
              refine (HIY.out _).mono ?_
              rintro e U3 ⟨rfl, hc⟩
              refine ⟨_, rfl, ?_⟩
              have hb3 := below_step hb2 hc
              replace z6 := blk_below z6 hc
              replace z7 := blk_below z7 hc
              refine hK.out _ _ (two BN.out hb3) (fun _ => ?_)
              clear hK K hc
              refine norm_ (a' := ?_) ?_ ?_
              rotate_left
              · show Act.put _ (some 77) _ = _
                simp only [Act.put, setIfInBounds_toArray, set_cons_zero, set_cons_succ, i64_w, i32_w]
                rfl
              exact hcont (p6, p7) _ ⟨z6, z7, ne, ⟨g6, g7⟩, hb3⟩
          · refine value_ (v := .pointer (some ⟨U0.heap.size, 0, none⟩)) (w1 := U0.alloc zc) (by rfl) rfl (by go_simp) ?_
            have z7 := heap_alloc_new U0 zc
            have g7 := hb0.size
            have hb1 := below_alloc hb0 zc
            refine hK.out _ _ (two BN.out hb1) (fun _ => ?_)
            clear hK K
            refine norm_ (a' := ?_) ?_ ?_
            rotate_left
            · show Act.put _ (some 17) _ = _
              simp only [Act.put, setIfInBounds_toArray, set_cons_zero, set_cons_succ, i64_w, i32_w]
              rfl
            obtain ⟨U1, hU2⟩ : ∃ u_, U0.alloc zc = u_ := ⟨_, rfl⟩
            rw [hU2] at z7 hb1 ⊢
            obtain ⟨p7, hp⟩ : ∃ p, U0.heap.size = p := ⟨_, rfl⟩
            rw [hp] at z7 g7  ⊢
            clear hU2 hp
            refine two_ (i := 5) (j := 6) (Ni := some 77) (Nj := some 16) #[true, true, true, true, true, true, false, true, false, false] #[true, true, true, true, true, false, true, true, false, false] rfl rfl rfl rfl (two_of rfl (by kernel_rfl)) (by decide) (by decide) (fun K hK => ?_) (fun K hK => ?_)
            · refine goes_ Tryz.func25 (by kernel_rfl) rfl #[.int .i64 y] (by rfl) rfl rfl (by (try simp only [map_toArray, map_cons, map_nil]); rfl) ?_
              refine (HIY.out _).mono ?_
              rintro e U2 ⟨rfl, hc⟩
              refine ⟨_, rfl, ?_⟩
              have hb2 := below_step hb1 hc
              replace z7 := blk_below z7 hc
              refine hK.out _ _ (two BN.out hb2) (fun _ => ?_)
              clear hK K hc
              refine norm_ (a' := ?_) ?_ ?_
              rotate_left
              · show Act.put _ (some 77) _ = _
                simp only [Act.put, setIfInBounds_toArray, set_cons_zero, set_cons_succ, i64_w, i32_w]
                rfl
              refine one_ (i := 6) (N := some 16) #[true, true, true, true, true, true, true, true, false, false] rfl rfl (one_of rfl (by kernel_rfl)) (by decide) (fun K hK => ?_)
              refine value_ (v := .pointer (some ⟨U2.heap.size, 0, none⟩)) (w1 := U2.alloc zc) (by rfl) rfl (by go_simp) ?_
              have z6 := heap_alloc_new U2 zc
              have g6 := hb2.size
              have ne : p7 ≠ U2.heap.size := Nat.ne_of_lt (blk_lt z7)
              replace z7 := blk_alloc z7 zc
              have hb3 := below_alloc hb2 zc
              refine hK.out _ _ (two BN.out hb3) (fun _ => ?_)
              clear hK K
              refine norm_ (a' := ?_) ?_ ?_
              rotate_left
              · show Act.put _ (some 16) _ = _
                simp only [Act.put, setIfInBounds_toArray, set_cons_zero, set_cons_succ, i64_w, i32_w]
                rfl
              obtain ⟨U3, hU2⟩ : ∃ u_, U2.alloc zc = u_ := ⟨_, rfl⟩
              rw [hU2] at z6 hb3 z7 ⊢
              obtain ⟨p6, hp⟩ : ∃ p, U2.heap.size = p := ⟨_, rfl⟩
              rw [hp] at z6 g6 ne ⊢
              clear hU2 hp
              exact hcont (p6, p7) _ ⟨z6, z7, (fun h => ne h.symm), ⟨g6, g7⟩, hb3⟩
            · refine value_ (v := .pointer (some ⟨U1.heap.size, 0, none⟩)) (w1 := U1.alloc zc) (by rfl) rfl (by go_simp) ?_
              have z6 := heap_alloc_new U1 zc
              have g6 := hb1.size
              have ne : p7 ≠ U1.heap.size := Nat.ne_of_lt (blk_lt z7)
              replace z7 := blk_alloc z7 zc
              have hb2 := below_alloc hb1 zc
              refine hK.out _ _ (two BN.out hb2) (fun _ => ?_)
              clear hK K
              refine norm_ (a' := ?_) ?_ ?_
              rotate_left
              · show Act.put _ (some 16) _ = _
                simp only [Act.put, setIfInBounds_toArray, set_cons_zero, set_cons_succ, i64_w, i32_w]
                rfl
              obtain ⟨U2, hU2⟩ : ∃ u_, U1.alloc zc = u_ := ⟨_, rfl⟩
              rw [hU2] at z6 hb2 z7 ⊢
              obtain ⟨p6, hp⟩ : ∃ p, U1.heap.size = p := ⟨_, rfl⟩
              rw [hp] at z6 g6 ne ⊢
              clear hU2 hp
              refine one_ (i := 5) (N := some 77) #[true, true, true, true, true, true, true, true, false, false] rfl rfl (one_of rfl (by kernel_rfl)) (by decide) (fun K hK => ?_)
              refine goes_ Tryz.func25 (by kernel_rfl) rfl #[.int .i64 y] (by rfl) rfl rfl (by (try simp only [map_toArray, map_cons, map_nil]); rfl) ?_
              refine (HIY.out _).mono ?_
              rintro e U3 ⟨rfl, hc⟩
              refine ⟨_, rfl, ?_⟩
              have hb3 := below_step hb2 hc
              replace z6 := blk_below z6 hc
              replace z7 := blk_below z7 hc
              refine hK.out _ _ (two BN.out hb3) (fun _ => ?_)
              clear hK K hc
              refine norm_ (a' := ?_) ?_ ?_
              rotate_left
              · show Act.put _ (some 77) _ = _
                simp only [Act.put, setIfInBounds_toArray, set_cons_zero, set_cons_succ, i64_w, i32_w]
                rfl
              exact hcont (p6, p7) _ ⟨z6, z7, (fun h => ne h.symm), ⟨g6, g7⟩, hb3⟩
        · refine value_ (v := .pointer (some ⟨V.heap.size, 0, none⟩)) (w1 := V.alloc zc) (by rfl) rfl (by go_simp) ?_
          have z6 := heap_alloc_new V zc
          have hb0 := below_alloc (Below.refl V.heap.size V) zc
          refine hK.out _ _ (two BN.out hb0) (fun _ => ?_)
          clear hK K
          refine norm_ (a' := ?_) ?_ ?_
          rotate_left
          · show Act.put _ (some 16) _ = _
            simp only [Act.put, setIfInBounds_toArray, set_cons_zero, set_cons_succ, i64_w, i32_w]
            rfl
          obtain ⟨U0, hU2⟩ : ∃ u_, V.alloc zc = u_ := ⟨_, rfl⟩
          rw [hU2] at z6 hb0 ⊢
          obtain ⟨p6, hp⟩ : ∃ p, V.heap.size = p := ⟨_, rfl⟩
          rw [hp] at z6   ⊢
          have g6 := Nat.le_of_eq hp
          clear hU2 hp
          refine two_ (i := 2) (j := 7) (Ni := some 74) (Nj := some 17) #[true, true, true, true, true, false, true, false, false, false] #[true, true, false, true, true, false, true, true, false, false] rfl rfl rfl rfl (two_of rfl (by kernel_rfl)) (by decide) (by decide) (fun K hK => ?_) (fun K hK => ?_)
          · refine goes_ Tryz.func25 (by kernel_rfl) rfl #[.int .i64 x] (by rfl) rfl rfl (by (try simp only [map_toArray, map_cons, map_nil]); rfl) ?_
            refine (HIX.out _).mono ?_
            rintro e U1 ⟨rfl, hc⟩
            refine ⟨_, rfl, ?_⟩
            have hb1 := below_step hb0 hc
            replace z6 := blk_below z6 hc
            refine hK.out _ _ (two BN.out hb1) (fun _ => ?_)
            clear hK K hc
            refine norm_ (a' := ?_) ?_ ?_
            rotate_left
            · show Act.put _ (some 74) _ = _
              simp only [Act.put, setIfInBounds_toArray, set_cons_zero, set_cons_succ, i64_w, i32_w]
              rfl
            refine two_ (i := 5) (j := 7) (Ni := some 77) (Nj := some 17) #[true, true, true, true, true, true, true, false, false, false] #[true, true, true, true, true, false, true, true, false, false] rfl rfl rfl rfl (two_of rfl (by kernel_rfl)) (by decide) (by decide) (fun K hK => ?_) (fun K hK => ?_)
            · refine goes_ Tryz.func25 (by kernel_rfl) rfl #[.int .i64 y] (by rfl) rfl rfl (by (try simp only [map_toArray, map_cons, map_nil]); rfl) ?_
              refine (HIY.out _).mono ?_
              rintro e U2 ⟨rfl, hc⟩
              refine ⟨_, rfl, ?_⟩
              have hb2 := below_step hb1 hc
              replace z6 := blk_below z6 hc
              refine hK.out _ _ (two BN.out hb2) (fun _ => ?_)
              clear hK K hc
              refine norm_ (a' := ?_) ?_ ?_
              rotate_left
              · show Act.put _ (some 77) _ = _
                simp only [Act.put, setIfInBounds_toArray, set_cons_zero, set_cons_succ, i64_w, i32_w]
                rfl
              refine one_ (i := 7) (N := some 17) #[true, true, true, true, true, true, true, true, false, false] rfl rfl (one_of rfl (by kernel_rfl)) (by decide) (fun K hK => ?_)
              refine value_ (v := .pointer (some ⟨U2.heap.size, 0, none⟩)) (w1 := U2.alloc zc) (by rfl) rfl (by go_simp) ?_
              have z7 := heap_alloc_new U2 zc
              have g7 := hb2.size
              have ne : p6 ≠ U2.heap.size := Nat.ne_of_lt (blk_lt z6)
              replace z6 := blk_alloc z6 zc
              have hb3 := below_alloc hb2 zc
              refine hK.out _ _ (two BN.out hb3) (fun _ => ?_)
              clear hK K
              refine norm_ (a' := ?_) ?_ ?_
              rotate_left
              · show Act.put _ (some 17) _ = _
                simp only [Act.put, setIfInBounds_toArray, set_cons_zero, set_cons_succ, i64_w, i32_w]
                rfl
              obtain ⟨U3, hU2⟩ : ∃ u_, U2.alloc zc = u_ := ⟨_, rfl⟩
              rw [hU2] at z7 hb3 z6 ⊢
              obtain ⟨p7, hp⟩ : ∃ p, U2.heap.size = p := ⟨_, rfl⟩
              rw [hp] at z7 g7 ne ⊢
              clear hU2 hp
              exact hcont (p6, p7) _ ⟨z6, z7, ne, ⟨g6, g7⟩, hb3⟩
            · refine value_ (v := .pointer (some ⟨U1.heap.size, 0, none⟩)) (w1 := U1.alloc zc) (by rfl) rfl (by go_simp) ?_
              have z7 := heap_alloc_new U1 zc
              have g7 := hb1.size
              have ne : p6 ≠ U1.heap.size := Nat.ne_of_lt (blk_lt z6)
              replace z6 := blk_alloc z6 zc
              have hb2 := below_alloc hb1 zc
              refine hK.out _ _ (two BN.out hb2) (fun _ => ?_)
              clear hK K
              refine norm_ (a' := ?_) ?_ ?_
              rotate_left
              · show Act.put _ (some 17) _ = _
                simp only [Act.put, setIfInBounds_toArray, set_cons_zero, set_cons_succ, i64_w, i32_w]
                rfl
              obtain ⟨U2, hU2⟩ : ∃ u_, U1.alloc zc = u_ := ⟨_, rfl⟩
              rw [hU2] at z7 hb2 z6 ⊢
              obtain ⟨p7, hp⟩ : ∃ p, U1.heap.size = p := ⟨_, rfl⟩
              rw [hp] at z7 g7 ne ⊢
              clear hU2 hp
              refine one_ (i := 5) (N := some 77) #[true, true, true, true, true, true, true, true, false, false] rfl rfl (one_of rfl (by kernel_rfl)) (by decide) (fun K hK => ?_)
              refine goes_ Tryz.func25 (by kernel_rfl) rfl #[.int .i64 y] (by rfl) rfl rfl (by (try simp only [map_toArray, map_cons, map_nil]); rfl) ?_
              refine (HIY.out _).mono ?_
              rintro e U3 ⟨rfl, hc⟩
              refine ⟨_, rfl, ?_⟩
              have hb3 := below_step hb2 hc
              replace z6 := blk_below z6 hc
              replace z7 := blk_below z7 hc
              refine hK.out _ _ (two BN.out hb3) (fun _ => ?_)
              clear hK K hc
              refine norm_ (a' := ?_) ?_ ?_
              rotate_left
              · show Act.put _ (some 77) _ = _
                simp only [Act.put, setIfInBounds_toArray, set_cons_zero, set_cons_succ, i64_w, i32_w]
                rfl
              exact hcont (p6, p7) _ ⟨z6, z7, ne, ⟨g6, g7⟩, hb3⟩
          · refine value_ (v := .pointer (some ⟨U0.heap.size, 0, none⟩)) (w1 := U0.alloc zc) (by rfl) rfl (by go_simp) ?_
            have z7 := heap_alloc_new U0 zc
            have g7 := hb0.size
            have ne : p6 ≠ U0.heap.size := Nat.ne_of_lt (blk_lt z6)
            replace z6 := blk_alloc z6 zc
            have hb1 := below_alloc hb0 zc
            refine hK.out _ _ (two BN.out hb1) (fun _ => ?_)
            clear hK K
            refine norm_ (a' := ?_) ?_ ?_
            rotate_left
            · show Act.put _ (some 17) _ = _
              simp only [Act.put, setIfInBounds_toArray, set_cons_zero, set_cons_succ, i64_w, i32_w]
              rfl
            obtain ⟨U1, hU2⟩ : ∃ u_, U0.alloc zc = u_ := ⟨_, rfl⟩
            rw [hU2] at z7 hb1 z6 ⊢
            obtain ⟨p7, hp⟩ : ∃ p, U0.heap.size = p := ⟨_, rfl⟩
            rw [hp] at z7 g7 ne ⊢
            clear hU2 hp
            refine one_ (i := 2) (N := some 74) #[true, true, true, true, true, false, true, true, false, false] rfl rfl (one_of rfl (by kernel_rfl)) (by decide) (fun K hK => ?_)
            refine goes_ Tryz.func25 (by kernel_rfl) rfl #[.int .i64 x] (by rfl) rfl rfl (by (try simp only [map_toArray, map_cons, map_nil]); rfl) ?_
            refine (HIX.out _).mono ?_
            rintro e U2 ⟨rfl, hc⟩
            refine ⟨_, rfl, ?_⟩
            have hb2 := below_step hb1 hc
            replace z6 := blk_below z6 hc
            replace z7 := blk_below z7 hc
            refine hK.out _ _ (two BN.out hb2) (fun _ => ?_)
            clear hK K hc
            refine norm_ (a' := ?_) ?_ ?_
            rotate_left
            · show Act.put _ (some 74) _ = _
              simp only [Act.put, setIfInBounds_toArray, set_cons_zero, set_cons_succ, i64_w, i32_w]
              rfl
            refine one_ (i := 5) (N := some 77) #[true, true, true, true, true, true, true, true, false, false] rfl rfl (one_of rfl (by kernel_rfl)) (by decide) (fun K hK => ?_)
            refine goes_ Tryz.func25 (by kernel_rfl) rfl #[.int .i64 y] (by rfl) rfl rfl (by (try simp only [map_toArray, map_cons, map_nil]); rfl) ?_
            refine (HIY.out _).mono ?_
            rintro e U3 ⟨rfl, hc⟩
            refine ⟨_, rfl, ?_⟩
            have hb3 := below_step hb2 hc
            replace z6 := blk_below z6 hc
            replace z7 := blk_below z7 hc
            refine hK.out _ _ (two BN.out hb3) (fun _ => ?_)
            clear hK K hc
            refine norm_ (a' := ?_) ?_ ?_
            rotate_left
            · show Act.put _ (some 77) _ = _
              simp only [Act.put, setIfInBounds_toArray, set_cons_zero, set_cons_succ, i64_w, i32_w]
              rfl
            exact hcont (p6, p7) _ ⟨z6, z7, ne, ⟨g6, g7⟩, hb3⟩
        · refine value_ (v := .pointer (some ⟨V.heap.size, 0, none⟩)) (w1 := V.alloc zc) (by rfl) rfl (by go_simp) ?_
          have z7 := heap_alloc_new V zc
          have hb0 := below_alloc (Below.refl V.heap.size V) zc
          refine hK.out _ _ (two BN.out hb0) (fun _ => ?_)
          clear hK K
          refine norm_ (a' := ?_) ?_ ?_
          rotate_left
          · show Act.put _ (some 17) _ = _
            simp only [Act.put, setIfInBounds_toArray, set_cons_zero, set_cons_succ, i64_w, i32_w]
            rfl
          obtain ⟨U0, hU2⟩ : ∃ u_, V.alloc zc = u_ := ⟨_, rfl⟩
          rw [hU2] at z7 hb0 ⊢
          obtain ⟨p7, hp⟩ : ∃ p, V.heap.size = p := ⟨_, rfl⟩
          rw [hp] at z7   ⊢
          have g7 := Nat.le_of_eq hp
          clear hU2 hp
          refine two_ (i := 2) (j := 6) (Ni := some 74) (Nj := some 16) #[true, true, true, true, true, false, false, true, false, false] #[true, true, false, true, true, false, true, true, false, false] rfl rfl rfl rfl (two_of rfl (by kernel_rfl)) (by decide) (by decide) (fun K hK => ?_) (fun K hK => ?_)
          · refine goes_ Tryz.func25 (by kernel_rfl) rfl #[.int .i64 x] (by rfl) rfl rfl (by (try simp only [map_toArray, map_cons, map_nil]); rfl) ?_
            refine (HIX.out _).mono ?_
            rintro e U1 ⟨rfl, hc⟩
            refine ⟨_, rfl, ?_⟩
            have hb1 := below_step hb0 hc
            replace z7 := blk_below z7 hc
            refine hK.out _ _ (two BN.out hb1) (fun _ => ?_)
            clear hK K hc
            refine norm_ (a' := ?_) ?_ ?_
            rotate_left
            · show Act.put _ (some 74) _ = _
              simp only [Act.put, setIfInBounds_toArray, set_cons_zero, set_cons_succ, i64_w, i32_w]
              rfl
            refine two_ (i := 5) (j := 6) (Ni := some 77) (Nj := some 16) #[true, true, true, true, true, true, false, true, false, false] #[true, true, true, true, true, false, true, true, false, false] rfl rfl rfl rfl (two_of rfl (by kernel_rfl)) (by decide) (by decide) (fun K hK => ?_) (fun K hK => ?_)
            · refine goes_ Tryz.func25 (by kernel_rfl) rfl #[.int .i64 y] (by rfl) rfl rfl (by (try simp only [map_toArray, map_cons, map_nil]); rfl) ?_
              refine (HIY.out _).mono ?_
              rintro e U2 ⟨rfl, hc⟩
              refine ⟨_, rfl, ?_⟩
              have hb2 := below_step hb1 hc
              replace z7 := blk_below z7 hc
              refine hK.out _ _ (two BN.out hb2) (fun _ => ?_)
              clear hK K hc
              refine norm_ (a' := ?_) ?_ ?_
              rotate_left
              · show Act.put _ (some 77) _ = _
                simp only [Act.put, setIfInBounds_toArray, set_cons_zero, set_cons_succ, i64_w, i32_w]
                rfl
              refine one_ (i := 6) (N := some 16) #[true, true, true, true, true, true, true, true, false, false] rfl rfl (one_of rfl (by kernel_rfl)) (by decide) (fun K hK => ?_)
              refine value_ (v := .pointer (some ⟨U2.heap.size, 0, none⟩)) (w1 := U2.alloc zc) (by rfl) rfl (by go_simp) ?_
              have z6 := heap_alloc_new U2 zc
              have g6 := hb2.size
              have ne : p7 ≠ U2.heap.size := Nat.ne_of_lt (blk_lt z7)
              replace z7 := blk_alloc z7 zc
              have hb3 := below_alloc hb2 zc
              refine hK.out _ _ (two BN.out hb3) (fun _ => ?_)
              clear hK K
              refine norm_ (a' := ?_) ?_ ?_
              rotate_left
              · show Act.put _ (some 16) _ = _
                simp only [Act.put, setIfInBounds_toArray, set_cons_zero, set_cons_succ, i64_w, i32_w]
                rfl
              obtain ⟨U3, hU2⟩ : ∃ u_, U2.alloc zc = u_ := ⟨_, rfl⟩
              rw [hU2] at z6 hb3 z7 ⊢
              obtain ⟨p6, hp⟩ : ∃ p, U2.heap.size = p := ⟨_, rfl⟩
              rw [hp] at z6 g6 ne ⊢
              clear hU2 hp
              exact hcont (p6, p7) _ ⟨z6, z7, (fun h => ne h.symm), ⟨g6, g7⟩, hb3⟩
            · refine value_ (v := .pointer (some ⟨U1.heap.size, 0, none⟩)) (w1 := U1.alloc zc) (by rfl) rfl (by go_simp) ?_
              have z6 := heap_alloc_new U1 zc
              have g6 := hb1.size
              have ne : p7 ≠ U1.heap.size := Nat.ne_of_lt (blk_lt z7)
              replace z7 := blk_alloc z7 zc
              have hb2 := below_alloc hb1 zc
              refine hK.out _ _ (two BN.out hb2) (fun _ => ?_)
              clear hK K
              refine norm_ (a' := ?_) ?_ ?_
              rotate_left
              · show Act.put _ (some 16) _ = _
                simp only [Act.put, setIfInBounds_toArray, set_cons_zero, set_cons_succ, i64_w, i32_w]
                rfl
              obtain ⟨U2, hU2⟩ : ∃ u_, U1.alloc zc = u_ := ⟨_, rfl⟩
              rw [hU2] at z6 hb2 z7 ⊢
              obtain ⟨p6, hp⟩ : ∃ p, U1.heap.size = p := ⟨_, rfl⟩
              rw [hp] at z6 g6 ne ⊢
              clear hU2 hp
              refine one_ (i := 5) (N := some 77) #[true, true, true, true, true, true, true, true, false, false] rfl rfl (one_of rfl (by kernel_rfl)) (by decide) (fun K hK => ?_)
              refine goes_ Tryz.func25 (by kernel_rfl) rfl #[.int .i64 y] (by rfl) rfl rfl (by (try simp only [map_toArray, map_cons, map_nil]); rfl) ?_
              refine (HIY.out _).mono ?_
              rintro e U3 ⟨rfl, hc⟩
              refine ⟨_, rfl, ?_⟩
              have hb3 := below_step hb2 hc
              replace z6 := blk_below z6 hc
              replace z7 := blk_below z7 hc
              refine hK.out _ _ (two BN.out hb3) (fun _ => ?_)
              clear hK K hc
              refine norm_ (a' := ?_) ?_ ?_
              rotate_left
              · show Act.put _ (some 77) _ = _
                simp only [Act.put, setIfInBounds_toArray, set_cons_zero, set_cons_succ, i64_w, i32_w]
                rfl
              exact hcont (p6, p7) _ ⟨z6, z7, (fun h => ne h.symm), ⟨g6, g7⟩, hb3⟩
          · refine value_ (v := .pointer (some ⟨U0.heap.size, 0, none⟩)) (w1 := U0.alloc zc) (by rfl) rfl (by go_simp) ?_
            have z6 := heap_alloc_new U0 zc
            have g6 := hb0.size
            have ne : p7 ≠ U0.heap.size := Nat.ne_of_lt (blk_lt z7)
            replace z7 := blk_alloc z7 zc
            have hb1 := below_alloc hb0 zc
            refine hK.out _ _ (two BN.out hb1) (fun _ => ?_)
            clear hK K
            refine norm_ (a' := ?_) ?_ ?_
            rotate_left
            · show Act.put _ (some 16) _ = _
              simp only [Act.put, setIfInBounds_toArray, set_cons_zero, set_cons_succ, i64_w, i32_w]
              rfl
            obtain ⟨U1, hU2⟩ : ∃ u_, U0.alloc zc = u_ := ⟨_, rfl⟩
            rw [hU2] at z6 hb1 z7 ⊢
            obtain ⟨p6, hp⟩ : ∃ p, U0.heap.size = p := ⟨_, rfl⟩
            rw [hp] at z6 g6 ne ⊢
            clear hU2 hp
            refine one_ (i := 2) (N := some 74) #[true, true, true, true, true, false, true, true, false, false] rfl rfl (one_of rfl (by kernel_rfl)) (by decide) (fun K hK => ?_)
            refine goes_ Tryz.func25 (by kernel_rfl) rfl #[.int .i64 x] (by rfl) rfl rfl (by (try simp only [map_toArray, map_cons, map_nil]); rfl) ?_
            refine (HIX.out _).mono ?_
            rintro e U2 ⟨rfl, hc⟩
            refine ⟨_, rfl, ?_⟩
            have hb2 := below_step hb1 hc
            replace z6 := blk_below z6 hc
            replace z7 := blk_below z7 hc
            refine hK.out _ _ (two BN.out hb2) (fun _ => ?_)
            clear hK K hc
            refine norm_ (a' := ?_) ?_ ?_
            rotate_left
            · show Act.put _ (some 74) _ = _
              simp only [Act.put, setIfInBounds_toArray, set_cons_zero, set_cons_succ, i64_w, i32_w]
              rfl
            refine one_ (i := 5) (N := some 77) #[true, true, true, true, true, true, true, true, false, false] rfl rfl (one_of rfl (by kernel_rfl)) (by decide) (fun K hK => ?_)
            refine goes_ Tryz.func25 (by kernel_rfl) rfl #[.int .i64 y] (by rfl) rfl rfl (by (try simp only [map_toArray, map_cons, map_nil]); rfl) ?_
            refine (HIY.out _).mono ?_
            rintro e U3 ⟨rfl, hc⟩
            refine ⟨_, rfl, ?_⟩
            have hb3 := below_step hb2 hc
            replace z6 := blk_below z6 hc
            replace z7 := blk_below z7 hc
            refine hK.out _ _ (two BN.out hb3) (fun _ => ?_)
            clear hK K hc
            refine norm_ (a' := ?_) ?_ ?_
            rotate_left
            · show Act.put _ (some 77) _ = _
              simp only [Act.put, setIfInBounds_toArray, set_cons_zero, set_cons_succ, i64_w, i32_w]
              rfl
            exact hcont (p6, p7) _ ⟨z6, z7, (fun h => ne h.symm), ⟨g6, g7⟩, hb3⟩
      rintro ⟨p, q⟩ U ⟨z0, z1, ne, ⟨g0, g1⟩, hbU⟩
      refine norm_ (a' := ?_) ?_ ?_
      rotate_left
      · simp only [putAll, Act.put, setIfInBounds_toArray, set_cons_zero, set_cons_succ]
        rfl
      obtain ⟨c0, c1, f0, f1, c2, f2⟩ := put_facts z0 (.int .u64 X)
      obtain ⟨y_p, yy⟩ := put_cell z0 (.int .u64 X) (.string (⟨#[]⟩ : ByteArray))
      refine one_ (i := 8) (N := none) #[true, true, true, true, true, true, true, true, true, false] rfl rfl (one_of rfl (by kernel_rfl)) (by decide) (fun K hK => ?_)
      refine skip_ (w1 := (U.setCell ⟨p, 0, none⟩ (.int .u64 X)).setCell ⟨p, 1, none⟩ (.string (⟨#[]⟩ : ByteArray))) (by rfl) rfl (by go_simp) ?_
      have hbV0 := below_set (j := 1) (v := .string (⟨#[]⟩ : ByteArray)) (below_set (j := 0) (v := .int .u64 X) hbU g0) g0
      have a1 := (yy _ (fun h => ne h.symm)).trans z1
      refine hK.out _ _ (two BN.out hbV0) (fun hS => ?_)
      clear hS hK K c0 c1 f0 f1 c2 f2 yy z0 hbU z1
      obtain ⟨V0, hV⟩ : ∃ V, (U.setCell ⟨p, 0, none⟩ (.int .u64 X)).setCell ⟨p, 1, none⟩ (.string (⟨#[]⟩ : ByteArray)) = V := ⟨_, rfl⟩
      rw [hV] at y_p hbV0 a1 ⊢
      clear hV U
      obtain ⟨c0, c1, f0, f1, c2, f2⟩ := put_facts a1 (.int .u64 Y)
      obtain ⟨y_q, yy⟩ := put_cell a1 (.int .u64 Y) (.string (⟨#[]⟩ : ByteArray))
      refine one_ (i := 9) (N := none) #[true, true, true, true, true, true, true, true, true, true] rfl rfl (one_of rfl (by kernel_rfl)) (by decide) (fun K hK => ?_)
      refine skip_ (w1 := (V0.setCell ⟨q, 0, none⟩ (.int .u64 Y)).setCell ⟨q, 1, none⟩ (.string (⟨#[]⟩ : ByteArray))) (by rfl) rfl (by go_simp) ?_
      have hbV1 := below_set (j := 1) (v := .string (⟨#[]⟩ : ByteArray)) (below_set (j := 0) (v := .int .u64 Y) hbV0 g1) g1
      have b0 := (yy _ ne).trans y_p
      refine hK.out _ _ (two BN.out hbV1) (fun hS => ?_)
      clear hS hK K c0 c1 f0 f1 c2 f2 yy a1 hbV0 y_p
      obtain ⟨V1, hV⟩ : ∃ V, (V0.setCell ⟨q, 0, none⟩ (.int .u64 Y)).setCell ⟨q, 1, none⟩ (.string (⟨#[]⟩ : ByteArray)) = V := ⟨_, rfl⟩
      rw [hV] at y_q hbV1 b0 ⊢
      clear hV V0
      refine done_ (done_of rfl (by kernel_rfl)) ?_
      have BP := Aside0.mk b0
      have BQ := Aside0.mk y_q
      replace HB := Aside0.mk (below_step HB.out hbV1)
      replace BN := Aside0.mk ((hbV1.block _ (blk_lt BN.out)).trans BN.out)
      clear b0 y_q hbV1 ne g0 g1 hHeld V HIX HIY
      go_wp2_with fail
      replace BP := Aside0.mk (show V1.drew.heap[p]? = some (.cells #[.int .u64 X, .string ⟨#[]⟩] 24 (0, 0)) from BP.out)
      replace BQ := Aside0.mk (show V1.drew.heap[q]? = some (.cells #[.int .u64 Y, .string ⟨#[]⟩] 24 (0, 0)) from BQ.out)
      replace BN := Aside0.mk (show V1.drew.heap[w.heap.size + 1]? = some (.cells #[.int .i64 x, .int .i64 y] 36 (0, 0)) from BN.out)
      replace HB := Aside0.mk (below_drew1 HB.out)
      obtain ⟨e1, e2⟩ := E12.out
      refine start_ (n := 40) (S := fun w' => (w'.cell? ⟨p, 0, none⟩ = some (.int .u64 X) ∧ w'.cell? ⟨p, 1, none⟩ = some (.string ⟨#[]⟩)) ∧ (w'.cell? ⟨q, 0, none⟩ = some (.int .u64 Y) ∧ w'.cell? ⟨q, 1, none⟩ = some (.string ⟨#[]⟩)) ∧ Two (w.heap.size + 1) x y w') (ds := []) #[false, false, false, false, false, false, false, false, false, false, false, false, false, false, false, false, false, false, false, false, false, false, false, false, false, false, false, false, false, false, false, false, false, false, false, false, false, false, false, false] (by kernel_rfl) rfl rfl (s3 BP.out BQ.out BN.out (Below.refl _ _)) (fun hHeld => ?_)
      generalize V1.drew = T0 at *
      clear V1
      refine one_ (i := 0) (N := some 78) #[true, false, false, false, false, false, false, false, false, false, false, false, false, false, false, false, false, false, false, false, false, false, false, false, false, false, false, false, false, false, false, false, false, false, false, false, false, false, false, false] rfl rfl (one_of rfl (by kernel_rfl)) (by decide) (fun K hK => ?_)
      refine goes_ Tryz.func18 (by kernel_rfl) rfl #[] (by rfl) rfl rfl (by first | rfl | (simp only [map_toArray, map_nil]; done) | ((try simp only [map_toArray, map_cons, map_nil]); rfl)) ?_
      refine (HAL.out _ (below_step HB.out (Below.refl _ _))).mono ?_
      rintro e w2 ⟨rfl, hb⟩
      refine ⟨_, rfl, ?_⟩
      have m1 := below_step (Below.refl _ _) hb
      refine hK.out _ _ (s3 BP.out BQ.out BN.out m1) (fun hHeld => ?_)
      clear hK K
      refine norm_ (a' := ?_) ?_ ?_
      rotate_left
      · show Act.put _ (some 78) _ = _
        simp only [Act.put, setIfInBounds_toArray, set_cons_zero, set_cons_succ, i64_w, i32_w]
        rfl
      clear hb
      refine pure_ (i := 1) (N := some 79) (v := ?_) (a' := ?_) #[true, true, false, false, false, false, false, false, false, false, false, false, false, false, false, false, false, false, false, false, false, false, false, false, false, false, false, false, false, false, false, false, false, false, false, false, false, false, false, false] rfl rfl (any_of rfl (by kernel_rfl)) (fun _ _ _ h => h) (Or.inl ⟨by rfl, ?_⟩) ?_ ?_
      rotate_left
      · intro w'
        go_simp
        with_reducible rfl
      rotate_left
      · simp only [Act.put, setIfInBounds_toArray, set_cons_zero, set_cons_succ, i64_w, i32_w]
        rfl
      refine take_ (i := 2) (N := some 80) (v := ?_) (a' := ?_) #[true, true, true, false, false, false, false, false, false, false, false, false, false, false, false, false, false, false, false, false, false, false, false, false, false, false, false, false, false, false, false, false, false, false, false, false, false, false, false, false] rfl rfl (take_of rfl (by kernel_rfl)) (fun _ _ _ h => h) (Or.inl ⟨by rfl, ?_⟩) hHeld ?_ ?_
      rotate_left
      · rintro w' ⟨⟨q0, q1⟩, ⟨q2, q3⟩, q4, q5⟩
        go_simp
        with_reducible rfl
      rotate_left
      · simp only [Act.put, setIfInBounds_toArray, set_cons_zero, set_cons_succ, i64_w, i32_w]
        rfl
      refine take_ (i := 4) (N := some 82) (v := ?_) (a' := ?_) #[true, true, true, false, true, false, false, false, false, false, false, false, false, false, false, false, false, false, false, false, false, false, false, false, false, false, false, false, false, false, false, false, false, false, false, false, false, false, false, false] rfl rfl (take_of rfl (by kernel_rfl)) (fun _ _ _ h => h) (Or.inl ⟨by rfl, ?_⟩) hHeld ?_ ?_
      rotate_left
      · rintro w' ⟨⟨q0, q1⟩, ⟨q2, q3⟩, q4, q5⟩
        go_simp
        with_reducible rfl
      rotate_left
      · simp only [Act.put, setIfInBounds_toArray, set_cons_zero, set_cons_succ, i64_w, i32_w]
        rfl
      refine take_ (i := 5) (N := some 83) (v := ?_) (a' := ?_) #[true, true, true, false, true, true, false, false, false, false, false, false, false, false, false, false, false, false, false, false, false, false, false, false, false, false, false, false, false, false, false, false, false, false, false, false, false, false, false, false] rfl rfl (take_of rfl (by kernel_rfl)) (fun _ _ _ h => h) (Or.inl ⟨by rfl, ?_⟩) hHeld ?_ ?_
      rotate_left
      · rintro w' ⟨⟨q0, q1⟩, ⟨q2, q3⟩, q4, q5⟩
        go_simp
        with_reducible rfl
      rotate_left
      · simp only [Act.put, setIfInBounds_toArray, set_cons_zero, set_cons_succ, i64_w, i32_w]
        rfl
      refine one_ (i := 3) (N := some 81) #[true, true, true, true, true, true, false, false, false, false, false, false, false, false, false, false, false, false, false, false, false, false, false, false, false, false, false, false, false, false, false, false, false, false, false, false, false, false, false, false] rfl rfl (one_of rfl (by kernel_rfl)) (by decide) (fun K hK => ?_)
      refine goes_ Tryz.func26 (by kernel_rfl) rfl #[.agg #[.int .u64 X, .string ⟨#[]⟩]] (by rfl) rfl rfl (by first | rfl | (simp only [map_toArray, map_nil]; done) | ((try simp only [map_toArray, map_cons, map_nil]); rfl)) ?_
      refine (HSX.out _).mono ?_
      rintro e w2 ⟨rfl, hb⟩
      refine ⟨_, rfl, ?_⟩
      have m2 := below_step m1 hb
      refine hK.out _ _ (s3 BP.out BQ.out BN.out m2) (fun hHeld => ?_)
      clear hK K
      refine norm_ (a' := ?_) ?_ ?_
      rotate_left
      · show Act.put _ (some 81) _ = _
        simp only [Act.put, setIfInBounds_toArray, set_cons_zero, set_cons_succ, i64_w, i32_w]
        rfl
      clear hb m1
      refine pure_ (i := 6) (N := some 84) (v := ?_) (a' := ?_) #[true, true, true, true, true, true, true, false, false, false, false, false, false, false, false, false, false, false, false, false, false, false, false, false, false, false, false, false, false, false, false, false, false, false, false, false, false, false, false, false] rfl rfl (any_of rfl (by kernel_rfl)) (fun _ _ _ h => h) (Or.inl ⟨by rfl, ?_⟩) ?_ ?_
      rotate_left
      · intro w'
        go_simp
        with_reducible rfl
      rotate_left
      · simp only [Act.put, setIfInBounds_toArray, set_cons_zero, set_cons_succ, i64_w, i32_w]
        rfl
      refine pure_ (i := 7) (N := some 85) (v := ?_) (a' := ?_) #[true, true, true, true, true, true, true, true, false, false, false, false, false, false, false, false, false, false, false, false, false, false, false, false, false, false, false, false, false, false, false, false, false, false, false, false, false, false, false, false] rfl rfl (any_of rfl (by kernel_rfl)) (fun _ _ _ h => h) (Or.inl ⟨by rfl, ?_⟩) ?_ ?_
      rotate_left
      · intro w'
        go_simp
        with_reducible rfl
      rotate_left
      · simp only [Act.put, setIfInBounds_toArray, set_cons_zero, set_cons_succ, i64_w, i32_w]
        rfl
      refine pure_ (i := 8) (N := some 86) (v := ?_) (a' := ?_) #[true, true, true, true, true, true, true, true, true, false, false, false, false, false, false, false, false, false, false, false, false, false, false, false, false, false, false, false, false, false, false, false, false, false, false, false, false, false, false, false] rfl rfl (any_of rfl (by kernel_rfl)) (fun _ _ _ h => h) (Or.inl ⟨by rfl, ?_⟩) ?_ ?_
      rotate_left
      · intro w'
        go_simp
        with_reducible rfl
      rotate_left
      · simp only [Act.put, setIfInBounds_toArray, set_cons_zero, set_cons_succ, i64_w, i32_w]
        rfl
      refine take_ (i := 9) (N := some 87) (v := ?_) (a' := ?_) #[true, true, true, true, true, true, true, true, true, true, false, false, false, false, false, false, false, false, false, false, false, false, false, false, false, false, false, false, false, false, false, false, false, false, false, false, false, false, false, false] rfl rfl (take_of rfl (by kernel_rfl)) (fun _ _ _ h => h) (Or.inl ⟨by rfl, ?_⟩) hHeld ?_ ?_
      rotate_left
      · rintro w' ⟨⟨q0, q1⟩, ⟨q2, q3⟩, q4, q5⟩
        go_simp
        with_reducible rfl
      rotate_left
      · simp only [Act.put, setIfInBounds_toArray, set_cons_zero, set_cons_succ, i64_w, i32_w]
        rfl
      refine take_ (i := 11) (N := some 89) (v := ?_) (a' := ?_) #[true, true, true, true, true, true, true, true, true, true, false, true, false, false, false, false, false, false, false, false, false, false, false, false, false, false, false, false, false, false, false, false, false, false, false, false, false, false, false, false] rfl rfl (take_of rfl (by kernel_rfl)) (fun _ _ _ h => h) (Or.inl ⟨by rfl, ?_⟩) hHeld ?_ ?_
      rotate_left
      · rintro w' ⟨⟨q0, q1⟩, ⟨q2, q3⟩, q4, q5⟩
        go_simp
        with_reducible rfl
      rotate_left
      · simp only [Act.put, setIfInBounds_toArray, set_cons_zero, set_cons_succ, i64_w, i32_w]
        rfl
      refine take_ (i := 12) (N := some 90) (v := ?_) (a' := ?_) #[true, true, true, true, true, true, true, true, true, true, false, true, true, false, false, false, false, false, false, false, false, false, false, false, false, false, false, false, false, false, false, false, false, false, false, false, false, false, false, false] rfl rfl (take_of rfl (by kernel_rfl)) (fun _ _ _ h => h) (Or.inl ⟨by rfl, ?_⟩) hHeld ?_ ?_
      rotate_left
      · rintro w' ⟨⟨q0, q1⟩, ⟨q2, q3⟩, q4, q5⟩
        go_simp
        with_reducible rfl
      rotate_left
      · simp only [Act.put, setIfInBounds_toArray, set_cons_zero, set_cons_succ, i64_w, i32_w]
        rfl
      refine one_ (i := 10) (N := some 88) #[true, true, true, true, true, true, true, true, true, true, true, true, true, false, false, false, false, false, false, false, false, false, false, false, false, false, false, false, false, false, false, false, false, false, false, false, false, false, false, false] rfl rfl (one_of rfl (by kernel_rfl)) (by decide) (fun K hK => ?_)
      refine goes_ Tryz.func26 (by kernel_rfl) rfl #[.agg #[.int .u64 Y, .string ⟨#[]⟩]] (by rfl) rfl rfl (by first | rfl | (simp only [map_toArray, map_nil]; done) | ((try simp only [map_toArray, map_cons, map_nil]); rfl)) ?_
      refine (HSY.out _).mono ?_
      rintro e w2 ⟨rfl, hb⟩
      refine ⟨_, rfl, ?_⟩
      have m3 := below_step m2 hb
      refine hK.out _ _ (s3 BP.out BQ.out BN.out m3) (fun hHeld => ?_)
      clear hK K
      refine norm_ (a' := ?_) ?_ ?_
      rotate_left
      · show Act.put _ (some 88) _ = _
        simp only [Act.put, setIfInBounds_toArray, set_cons_zero, set_cons_succ, i64_w, i32_w]
        rfl
      clear hb m2
      refine pure_ (i := 13) (N := some 91) (v := ?_) (a' := ?_) #[true, true, true, true, true, true, true, true, true, true, true, true, true, true, false, false, false, false, false, false, false, false, false, false, false, false, false, false, false, false, false, false, false, false, false, false, false, false, false, false] rfl rfl (any_of rfl (by kernel_rfl)) (fun _ _ _ h => h) (Or.inl ⟨by rfl, ?_⟩) ?_ ?_
      rotate_left
      · intro w'
        go_simp
        with_reducible rfl
      rotate_left
      · simp only [Act.put, setIfInBounds_toArray, set_cons_zero, set_cons_succ, i64_w, i32_w]
        rfl
      refine pure_ (i := 14) (N := some 92) (v := ?_) (a' := ?_) #[true, true, true, true, true, true, true, true, true, true, true, true, true, true, true, false, false, false, false, false, false, false, false, false, false, false, false, false, false, false, false, false, false, false, false, false, false, false, false, false] rfl rfl (any_of rfl (by kernel_rfl)) (fun _ _ _ h => h) (Or.inl ⟨by rfl, ?_⟩) ?_ ?_
      rotate_left
      · intro w'
        go_simp
        with_reducible rfl
      rotate_left
      · simp only [Act.put, setIfInBounds_toArray, set_cons_zero, set_cons_succ, i64_w, i32_w]
        rfl
      refine pure_ (i := 15) (N := some 93) (v := ?_) (a' := ?_) #[true, true, true, true, true, true, true, true, true, true, true, true, true, true, true, true, false, false, false, false, false, false, false, false, false, false, false, false, false, false, false, false, false, false, false, false, false, false, false, false] rfl rfl (any_of rfl (by kernel_rfl)) (fun _ _ _ h => h) (Or.inl ⟨by rfl, ?_⟩) ?_ ?_
      rotate_left
      · intro w'
        go_simp
        with_reducible rfl
      rotate_left
      · simp only [Act.put, setIfInBounds_toArray, set_cons_zero, set_cons_succ, i64_w, i32_w]
        rfl
      refine take_ (i := 16) (N := some 94) (v := ?_) (a' := ?_) #[true, true, true, true, true, true, true, true, true, true, true, true, true, true, true, true, true, false, false, false, false, false, false, false, false, false, false, false, false, false, false, false, false, false, false, false, false, false, false, false] rfl rfl (take_of rfl (by kernel_rfl)) (fun _ _ _ h => h) (Or.inl ⟨by rfl, ?_⟩) hHeld ?_ ?_
      rotate_left
      · rintro w' ⟨⟨q0, q1⟩, ⟨q2, q3⟩, q4, q5⟩
        go_simp
        with_reducible rfl
      rotate_left
      · simp only [Act.put, setIfInBounds_toArray, set_cons_zero, set_cons_succ, i64_w, i32_w]
        rfl
      refine take_ (i := 17) (N := some 95) (v := ?_) (a' := ?_) #[true, true, true, true, true, true, true, true, true, true, true, true, true, true, true, true, true, true, false, false, false, false, false, false, false, false, false, false, false, false, false, false, false, false, false, false, false, false, false, false] rfl rfl (take_of rfl (by kernel_rfl)) (fun _ _ _ h => h) (Or.inl ⟨by rfl, ?_⟩) hHeld ?_ ?_
      rotate_left
      · rintro w' ⟨⟨q0, q1⟩, ⟨q2, q3⟩, q4, q5⟩
        go_simp
        with_reducible rfl
      rotate_left
      · simp only [Act.put, setIfInBounds_toArray, set_cons_zero, set_cons_succ, i64_w, i32_w]
        rfl
      refine take_ (i := 20) (N := some 98) (v := ?_) (a' := ?_) #[true, true, true, true, true, true, true, true, true, true, true, true, true, true, true, true, true, true, false, false, true, false, false, false, false, false, false, false, false, false, false, false, false, false, false, false, false, false, false, false] rfl rfl (take_of rfl (by kernel_rfl)) (fun _ _ _ h => h) (Or.inl ⟨by rfl, ?_⟩) hHeld ?_ ?_
      rotate_left
      · rintro w' ⟨⟨q0, q1⟩, ⟨q2, q3⟩, q4, q5⟩
        go_simp
        with_reducible rfl
      rotate_left
      · simp only [Act.put, setIfInBounds_toArray, set_cons_zero, set_cons_succ, i64_w, i32_w]
        rfl
      refine take_ (i := 21) (N := some 99) (v := ?_) (a' := ?_) #[true, true, true, true, true, true, true, true, true, true, true, true, true, true, true, true, true, true, false, false, true, true, false, false, false, false, false, false, false, false, false, false, false, false, false, false, false, false, false, false] rfl rfl (take_of rfl (by kernel_rfl)) (fun _ _ _ h => h) (Or.inl ⟨by rfl, ?_⟩) hHeld ?_ ?_
      rotate_left
      · rintro w' ⟨⟨q0, q1⟩, ⟨q2, q3⟩, q4, q5⟩
        go_simp
        with_reducible rfl
      rotate_left
      · simp only [Act.put, setIfInBounds_toArray, set_cons_zero, set_cons_succ, i64_w, i32_w]
        rfl
      refine take_ (i := 22) (N := some 100) (v := ?_) (a' := ?_) #[true, true, true, true, true, true, true, true, true, true, true, true, true, true, true, true, true, true, false, false, true, true, true, false, false, false, false, false, false, false, false, false, false, false, false, false, false, false, false, false] rfl rfl (take_of rfl (by kernel_rfl)) (fun _ _ _ h => h) (Or.inl ⟨by rfl, ?_⟩) hHeld ?_ ?_
      rotate_left
      · rintro w' ⟨⟨q0, q1⟩, ⟨q2, q3⟩, q4, q5⟩
        go_simp
        with_reducible rfl
      rotate_left
      · simp only [Act.put, setIfInBounds_toArray, set_cons_zero, set_cons_succ, i64_w, i32_w]
        rfl
      refine take_ (i := 23) (N := some 101) (v := ?_) (a' := ?_) #[true, true, true, true, true, true, true, true, true, true, true, true, true, true, true, true, true, true, false, false, true, true, true, true, false, false, false, false, false, false, false, false, false, false, false, false, false, false, false, false] rfl rfl (take_of rfl (by kernel_rfl)) (fun _ _ _ h => h) (Or.inl ⟨by rfl, ?_⟩) hHeld ?_ ?_
      rotate_left
      · rintro w' ⟨⟨q0, q1⟩, ⟨q2, q3⟩, q4, q5⟩
        go_simp
        with_reducible rfl
      rotate_left
      · simp only [Act.put, setIfInBounds_toArray, set_cons_zero, set_cons_succ, i64_w, i32_w]
        rfl
      refine pure_ (i := 24) (N := some 102) (v := ?_) (a' := ?_) #[true, true, true, true, true, true, true, true, true, true, true, true, true, true, true, true, true, true, false, false, true, true, true, true, true, false, false, false, false, false, false, false, false, false, false, false, false, false, false, false] rfl rfl (any_of rfl (by kernel_rfl)) (fun _ _ _ h => h) (Or.inl ⟨by rfl, ?_⟩) ?_ ?_
      rotate_left
      · intro w'
        go_simp
        with_reducible rfl
      rotate_left
      · simp only [Act.put, setIfInBounds_toArray, set_cons_zero, set_cons_succ, i64_w, i32_w]
        rfl
      refine one_ (i := 18) (N := some 96) #[true, true, true, true, true, true, true, true, true, true, true, true, true, true, true, true, true, true, true, false, true, true, true, true, true, false, false, false, false, false, false, false, false, false, false, false, false, false, false, false] rfl rfl (one_of rfl (by kernel_rfl)) (by decide) (fun K hK => ?_)
      refine goes_ Tryz.func27 (by kernel_rfl) rfl #[.int .i64 0, .agg #[.int .u64 X, .string ⟨#[]⟩], .agg #[.int .u64 Y, .string ⟨#[]⟩]] (by rfl) rfl rfl (by first | rfl | (simp only [map_toArray, map_nil]; done) | ((try simp only [map_toArray, map_cons, map_nil]); rfl)) ?_
      refine (H0.out _ (below_step HB.out m3)).mono ?_
      rintro e w2 ⟨rfl, hb⟩
      refine ⟨_, rfl, ?_⟩
      have m4 := below_step m3 hb
      refine hK.out _ _ (s3 BP.out BQ.out BN.out m4) (fun hHeld => ?_)
      clear hK K
      refine norm_ (a' := ?_) ?_ ?_
      rotate_left
      · show Act.put _ (some 96) _ = _
        simp only [Act.put, setIfInBounds_toArray, set_cons_zero, set_cons_succ, i64_w, i32_w]
        rfl
      clear hb m3
      refine pure_ (i := 19) (N := some 97) (v := ?_) (a' := ?_) #[true, true, true, true, true, true, true, true, true, true, true, true, true, true, true, true, true, true, true, true, true, true, true, true, true, false, false, false, false, false, false, false, false, false, false, false, false, false, false, false] rfl rfl (any_of rfl (by kernel_rfl)) (fun _ _ _ h => h) (Or.inl ⟨by rfl, ?_⟩) ?_ ?_
      rotate_left
      · intro w'
        go_simp
        with_reducible rfl
      rotate_left
      · simp only [Act.put, setIfInBounds_toArray, set_cons_zero, set_cons_succ, i64_w, i32_w]
        rfl
      refine pure_ (i := 25) (N := some 103) (v := ?_) (a' := ?_) #[true, true, true, true, true, true, true, true, true, true, true, true, true, true, true, true, true, true, true, true, true, true, true, true, true, true, false, false, false, false, false, false, false, false, false, false, false, false, false, false] rfl rfl (any_of rfl (by kernel_rfl)) (fun _ _ _ h => h) (Or.inl ⟨by rfl, ?_⟩) ?_ ?_
      rotate_left
      · intro w'
        go_simp
        with_reducible rfl
      rotate_left
      · simp only [Act.put, setIfInBounds_toArray, set_cons_zero, set_cons_succ, i64_w, i32_w]
        rfl
      refine pure_ (i := 26) (N := some 104) (v := ?_) (a' := ?_) #[true, true, true, true, true, true, true, true, true, true, true, true, true, true, true, true, true, true, true, true, true, true, true, true, true, true, true, false, false, false, false, false, false, false, false, false, false, false, false, false] rfl rfl (any_of rfl (by kernel_rfl)) (fun _ _ _ h => h) (Or.inl ⟨by rfl, ?_⟩) ?_ ?_
      rotate_left
      · intro w'
        go_simp
        with_reducible rfl
      rotate_left
      · simp only [Act.put, setIfInBounds_toArray, set_cons_zero, set_cons_succ, i64_w, i32_w]
        rfl
      refine pure_ (i := 27) (N := some 105) (v := ?_) (a' := ?_) #[true, true, true, true, true, true, true, true, true, true, true, true, true, true, true, true, true, true, true, true, true, true, true, true, true, true, true, true, false, false, false, false, false, false, false, false, false, false, false, false] rfl rfl (any_of rfl (by kernel_rfl)) (fun _ _ _ h => h) (Or.inl ⟨by rfl, ?_⟩) ?_ ?_
      rotate_left
      · intro w'
        go_simp
        with_reducible rfl
      rotate_left
      · simp only [Act.put, setIfInBounds_toArray, set_cons_zero, set_cons_succ, i64_w, i32_w]
        rfl
      refine take_ (i := 28) (N := some 106) (v := ?_) (a' := ?_) #[true, true, true, true, true, true, true, true, true, true, true, true, true, true, true, true, true, true, true, true, true, true, true, true, true, true, true, true, true, false, false, false, false, false, false, false, false, false, false, false] rfl rfl (take_of rfl (by kernel_rfl)) (fun _ _ _ h => h) (Or.inl ⟨by rfl, ?_⟩) hHeld ?_ ?_
      rotate_left
      · rintro w' ⟨⟨q0, q1⟩, ⟨q2, q3⟩, q4, q5⟩
        go_simp
        with_reducible rfl
      rotate_left
      · simp only [Act.put, setIfInBounds_toArray, set_cons_zero, set_cons_succ, i64_w, i32_w]
        rfl
      refine take_ (i := 29) (N := some 107) (v := ?_) (a' := ?_) #[true, true, true, true, true, true, true, true, true, true, true, true, true, true, true, true, true, true, true, true, true, true, true, true, true, true, true, true, true, true, false, false, false, false, false, false, false, false, false, false] rfl rfl (take_of rfl (by kernel_rfl)) (fun _ _ _ h => h) (Or.inl ⟨by rfl, ?_⟩) hHeld ?_ ?_
      rotate_left
      · rintro w' ⟨⟨q0, q1⟩, ⟨q2, q3⟩, q4, q5⟩
        go_simp
        with_reducible rfl
      rotate_left
      · simp only [Act.put, setIfInBounds_toArray, set_cons_zero, set_cons_succ, i64_w, i32_w]
        rfl
      refine take_ (i := 32) (N := some 110) (v := ?_) (a' := ?_) #[true, true, true, true, true, true, true, true, true, true, true, true, true, true, true, true, true, true, true, true, true, true, true, true, true, true, true, true, true, true, false, false, true, false, false, false, false, false, false, false] rfl rfl (take_of rfl (by kernel_rfl)) (fun _ _ _ h => h) (Or.inl ⟨by rfl, ?_⟩) hHeld ?_ ?_
      rotate_left
      · rintro w' ⟨⟨q0, q1⟩, ⟨q2, q3⟩, q4, q5⟩
        go_simp
        with_reducible rfl
      rotate_left
      · simp only [Act.put, setIfInBounds_toArray, set_cons_zero, set_cons_succ, i64_w, i32_w]
        rfl
      refine take_ (i := 33) (N := some 111) (v := ?_) (a' := ?_) #[true, true, true, true, true, true, true, true, true, true, true, true, true, true, true, true, true, true, true, true, true, true, true, true, true, true, true, true, true, true, false, false, true, true, false, false, false, false, false, false] rfl rfl (take_of rfl (by kernel_rfl)) (fun _ _ _ h => h) (Or.inl ⟨by rfl, ?_⟩) hHeld ?_ ?_
      rotate_left
      · rintro w' ⟨⟨q0, q1⟩, ⟨q2, q3⟩, q4, q5⟩
        go_simp
        with_reducible rfl
      rotate_left
      · simp only [Act.put, setIfInBounds_toArray, set_cons_zero, set_cons_succ, i64_w, i32_w]
        rfl
      refine take_ (i := 34) (N := some 112) (v := ?_) (a' := ?_) #[true, true, true, true, true, true, true, true, true, true, true, true, true, true, true, true, true, true, true, true, true, true, true, true, true, true, true, true, true, true, false, false, true, true, true, false, false, false, false, false] rfl rfl (take_of rfl (by kernel_rfl)) (fun _ _ _ h => h) (Or.inl ⟨by rfl, ?_⟩) hHeld ?_ ?_
      rotate_left
      · rintro w' ⟨⟨q0, q1⟩, ⟨q2, q3⟩, q4, q5⟩
        go_simp
        with_reducible rfl
      rotate_left
      · simp only [Act.put, setIfInBounds_toArray, set_cons_zero, set_cons_succ, i64_w, i32_w]
        rfl
      refine take_ (i := 35) (N := some 113) (v := ?_) (a' := ?_) #[true, true, true, true, true, true, true, true, true, true, true, true, true, true, true, true, true, true, true, true, true, true, true, true, true, true, true, true, true, true, false, false, true, true, true, true, false, false, false, false] rfl rfl (take_of rfl (by kernel_rfl)) (fun _ _ _ h => h) (Or.inl ⟨by rfl, ?_⟩) hHeld ?_ ?_
      rotate_left
      · rintro w' ⟨⟨q0, q1⟩, ⟨q2, q3⟩, q4, q5⟩
        go_simp
        with_reducible rfl
      rotate_left
      · simp only [Act.put, setIfInBounds_toArray, set_cons_zero, set_cons_succ, i64_w, i32_w]
        rfl
      refine pure_ (i := 36) (N := some 114) (v := ?_) (a' := ?_) #[true, true, true, true, true, true, true, true, true, true, true, true, true, true, true, true, true, true, true, true, true, true, true, true, true, true, true, true, true, true, false, false, true, true, true, true, true, false, false, false] rfl rfl (any_of rfl (by kernel_rfl)) (fun _ _ _ h => h) (Or.inl ⟨by rfl, ?_⟩) ?_ ?_
      rotate_left
      · intro w'
        go_simp
        with_reducible rfl
      rotate_left
      · simp only [Act.put, setIfInBounds_toArray, set_cons_zero, set_cons_succ, i64_w, i32_w]
        rfl
      refine one_ (i := 30) (N := some 108) #[true, true, true, true, true, true, true, true, true, true, true, true, true, true, true, true, true, true, true, true, true, true, true, true, true, true, true, true, true, true, true, false, true, true, true, true, true, false, false, false] rfl rfl (one_of rfl (by kernel_rfl)) (by decide) (fun K hK => ?_)
      refine goes_ Tryz.func27 (by kernel_rfl) rfl #[.int .i64 0, .agg #[.int .u64 X, .string ⟨#[]⟩], .agg #[.int .u64 Y, .string ⟨#[]⟩]] (by rfl) rfl rfl (by first | rfl | (simp only [map_toArray, map_nil]; done) | ((try simp only [map_toArray, map_cons, map_nil]); rfl)) ?_
      refine (H0.out _ (below_step HB.out m4)).mono ?_
      rintro e w2 ⟨rfl, hb⟩
      refine ⟨_, rfl, ?_⟩
      have m5 := below_step m4 hb
      refine hK.out _ _ (s3 BP.out BQ.out BN.out m5) (fun hHeld => ?_)
      clear hK K
      refine norm_ (a' := ?_) ?_ ?_
      rotate_left
      · show Act.put _ (some 108) _ = _
        simp only [Act.put, setIfInBounds_toArray, set_cons_zero, set_cons_succ, i64_w, i32_w]
        rfl
      clear hb m4
      refine pure_ (i := 31) (N := some 109) (v := ?_) (a' := ?_) #[true, true, true, true, true, true, true, true, true, true, true, true, true, true, true, true, true, true, true, true, true, true, true, true, true, true, true, true, true, true, true, true, true, true, true, true, true, false, false, false] rfl rfl (any_of rfl (by kernel_rfl)) (fun _ _ _ h => h) (Or.inl ⟨by rfl, ?_⟩) ?_ ?_
      rotate_left
      · intro w'
        go_simp
        with_reducible rfl
      rotate_left
      · simp only [Act.put, setIfInBounds_toArray, set_cons_zero, set_cons_succ, i64_w, i32_w]
        rfl
      refine pure_ (i := 37) (N := some 115) (v := ?_) (a' := ?_) #[true, true, true, true, true, true, true, true, true, true, true, true, true, true, true, true, true, true, true, true, true, true, true, true, true, true, true, true, true, true, true, true, true, true, true, true, true, true, false, false] rfl rfl (any_of rfl (by kernel_rfl)) (fun _ _ _ h => h) (Or.inl ⟨by rfl, ?_⟩) ?_ ?_
      rotate_left
      · intro w'
        go_simp
        with_reducible rfl
      rotate_left
      · simp only [Act.put, setIfInBounds_toArray, set_cons_zero, set_cons_succ, i64_w, i32_w]
        rfl
      refine pure_ (i := 38) (N := some 116) (v := ?_) (a' := ?_) #[true, true, true, true, true, true, true, true, true, true, true, true, true, true, true, true, true, true, true, true, true, true, true, true, true, true, true, true, true, true, true, true, true, true, true, true, true, true, true, false] rfl rfl (any_of rfl (by kernel_rfl)) (fun _ _ _ h => h) (Or.inl ⟨by rfl, ?_⟩) ?_ ?_
      rotate_left
      · intro w'
        go_simp
        with_reducible rfl
      rotate_left
      · simp only [Act.put, setIfInBounds_toArray, set_cons_zero, set_cons_succ, i64_w, i32_w]
        rfl
      refine pure_ (i := 39) (N := some 6) (v := ?_) (a' := ?_) #[true, true, true, true, true, true, true, true, true, true, true, true, true, true, true, true, true, true, true, true, true, true, true, true, true, true, true, true, true, true, true, true, true, true, true, true, true, true, true, true] rfl rfl (any_of rfl (by kernel_rfl)) (fun _ _ _ h => h) (Or.inl ⟨by rfl, ?_⟩) ?_ ?_
      rotate_left
      · intro w'
        go_simp
        with_reducible rfl
      rotate_left
      · simp only [Act.put, setIfInBounds_toArray, set_cons_zero, set_cons_succ, i64_w, i32_w]
        rfl
      refine done_ (done_of rfl (by kernel_rfl)) ?_
      have hfin := below_step HB.out m5
      go_wp2_with fail
      go_ret
      exact ⟨rfl, hfin⟩
end Go.Proofs.YtciolchdihlgfaaGreatDoor.Tx
