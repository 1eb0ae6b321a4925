import Derived.Test.YtciolchdihlgfaaGreatDoorTxG
import Derived.Test.YtciolchdihlgfaaGreatDoorPCox
/-! Cell: read. -/
namespace Go.Proofs.YtciolchdihlgfaaGreatDoor.Tx
open Go.RowKit Go.Proofs.YtciolchdihlgfaaGreatDoorW.PrintWords Go.Proofs.YtciolchdihlgfaaGreatDoorW.PrintLast Go.Proofs.YtciolchdihlgfaaGreatDoorW.PrintMore Go.Proofs.YtciolchdihlgfaaGreatDoor.Wire Go.Proofs.YtciolchdihlgfaaGreatDoor.PCo Go.Proofs.YtciolchdihlgfaaGreatDoor.Co Go.Proofs.YtciolchdihlgfaaGreatDoor.Ce Go.Proofs.YtciolchdihlgfaaGreatDoor.Num
set_option linter.unusedVariables false
set_option linter.unusedSimpArgs false
set_option maxRecDepth 100000
set_option maxHeartbeats 4000000
/-- What read tells. -/
def rdv (k : Int) (l : List UInt8) : Option (Int × ByteArray) :=
  if k = 0 then (match Lib.parseIntB 64 l with | .ok x => some (zu x, E0) | _ => none)
  else if k = 1 then (match Lib.parseUintB 64 l with | .ok x => some ((x : Int), E0) | _ => none)
  else if k = 2 then some (if l = TRUE then 1 else 0, E0)
  else if k = 5 then (match parseX0 l with | .ok x => some ((x : Int), E0) | _ => none)
  else (told l).map fun t => (0, ⟨t.toArray⟩)
theorem parseInt_rng {l : List UInt8} {v : Int} (hp : Lib.parseIntB 64 l = .ok v) : -9223372036854775808 ≤ v ∧ v ≤ 9223372036854775807 := by
  have e2 : (2 : Nat) ^ (64 - 1) = 9223372036854775808 := rfl
  unfold Lib.parseIntB at hp
  rw [e2] at hp
  split at hp
  · cases hp
  · simp only at hp
    split at hp
    · cases hp
    · cases hp
    · rename_i u hu'
      split at hp
      · cases hp
      · split at hp
        · cases hp
        · injection hp with hp
          rw [← hp]
          split <;> omega
theorem u64_zu {v : Int} (h : -9223372036854775808 ≤ v ∧ v ≤ 9223372036854775807) : IntKind.u64.wrap v = zu v := by
  rw [IntKind.wrap_u64]; unfold zu; split <;> omega
theorem read_calls (k : Int) (s : ByteArray) (hs : s.size ≤ 2000000) (w : World) (hE : ErrW w) :
    Calls Tryz.prog 67 #[.int .i64 k, .string s] w fun e w' => ∃ (n : Int) (t : ByteArray), e = .returned (.tuple #[.agg #[.int .u64 n, .string t], .bool (rdv k s.data.toList).isSome]) ∧ (∀ x, rdv k s.data.toList = some x → x = (n, t)) ∧ Below w.heap.size w w' := by
  have hnew := blk_new w (.cells #[.int .u64 0, .string ⟨#[]⟩] 24 (0, 0))
  have hb0 := below_alloc (Below.refl w.heap.size w) (.cells #[.int .u64 0, .string ⟨#[]⟩] 24)
  have HE := Aside0.mk (fun (W : World) (hb : Below w.heap.size w W) => hE.below hb)
  have HS := Aside0.mk hs
  clear hE hs
  by_cases h0 : k = 0
  · subst h0
    go_enter Tryz.func67, Tryz.ntmps67
    go_wp2_with (((with_reducible refine gate_dst (N := 4) rfl ?_); refine box_event ?hg (N := 4) ?hd (cs := #[.int .u64 0, .string (⟨#[]⟩ : ByteArray)]) (t := 24) ?hr ?_; (case hd => rfl); (case hg => rfl); (case hr => first | (go_simp; done) | (go_simp; rfl)); intro g hg w1 hbox hb; have HB := Aside0.mk hb; have BK := Aside0.mk hbox; have HG := Aside0.mk (show w.heap.size ≤ g from by omega); clear hb hbox hg))
    refine (pint_calls s HS.out _ (HE.out _ HB.out)).mono ?_
    rintro e w2 ⟨v, er, rfl, her, hb⟩
    have HB2 := Aside0.mk (below_step HB.out hb)
    have BK2 := Aside0.mk ((hb.block g (by exact blk_lt BK.out)).trans BK.out)
    clear hb
    go_wp2_with fail
    refine (cell_Int.calls v _ _ _ rfl).mono ?_
    rintro e w3 ⟨rfl, hb⟩
    have HB3 := Aside0.mk (below_step HB2.out hb)
    have BK3 := Aside0.mk ((hb.block g (by exact blk_lt BK2.out)).trans BK2.out)
    clear hb
    have hc0 : w3.cell? ⟨g, 0, none⟩ = some (.int .u64 0) := (blk_cell BK3.out 0).trans rfl
    have hc1 : w3.cell? ⟨g, 1, none⟩ = some (.string (⟨#[]⟩ : ByteArray)) := (blk_cell BK3.out 1).trans rfl
    have hf0 := blk_frozen BK3.out 0
    have hf1 := blk_frozen BK3.out 1
    go_wp2_with fail
    obtain ⟨n, hn⟩ : ∃ n, IntKind.u64.wrap v = n := ⟨_, rfl⟩
    rw [hn]
    obtain ⟨W4, hW4⟩ : ∃ W, (w3.setCell ⟨g, 0, none⟩ (.int .u64 n)).setCell ⟨g, 1, none⟩ (.string (⟨#[]⟩ : ByteArray)) = W := ⟨_, rfl⟩
    have BK4 := Aside0.mk (show W4.heap[g]? = some (.cells #[.int .u64 n, .string (⟨#[]⟩ : ByteArray)] 24 (0, 0)) from by rw [← hW4]; exact blk_put (blk_put BK3.out 0 _ rfl) 1 _ rfl)
    have HB4 := Aside0.mk (show Below w.heap.size w W4 from by rw [← hW4]; exact below_set (below_set HB3.out HG.out) HG.out)
    rw [hW4]
    have hres : ∃ b, er = (if b then .nilIface else er) ∧ (b = false → ∃ t p, er = .iface t p) ∧ (rdv 0 s.data.toList).isSome = b ∧ ∀ x, rdv 0 s.data.toList = some x → x = (n, E0) := by
      cases hp : Lib.parseIntB 64 s.data.toList with
      | ok x =>
        rw [hp] at her
        obtain ⟨rfl, rfl⟩ := her
        have e : rdv 0 s.data.toList = some (zu v, E0) := by unfold rdv; rw [if_pos rfl, hp]
        rw [e]
        refine ⟨true, rfl, by simp, rfl, ?_⟩
        rintro x ⟨⟩
        rw [← hn, u64_zu (parseInt_rng hp)]
      | _ =>
        rw [hp] at her
        have e : rdv 0 s.data.toList = none := by unfold rdv; rw [if_pos rfl, hp]
        rw [e]
        exact ⟨false, rfl, fun _ => her, rfl, by simp⟩
    clear hc0 hc1 hf0 hf1 hn hW4 her BK3 HB3 BK2 HB2 HB BK HE
    have hc0 : W4.cell? ⟨g, 0, none⟩ = some (.int .u64 n) := (blk_cell BK4.out 0).trans rfl
    have hc1 : W4.cell? ⟨g, 1, none⟩ = some (.string (⟨#[]⟩ : ByteArray)) := (blk_cell BK4.out 1).trans rfl
    have hf0 := blk_frozen BK4.out 0
    have hf1 := blk_frozen BK4.out 1
    obtain ⟨b, he, hb, hR, hx⟩ := hres
    cases b with
    | true =>
      simp only [if_true] at he
      subst he
      clear hb
      go_region
      go_wp2_with fail
      refine bodyPost_ret (results_ct rfl _ _ g 24 #[.int .u64 n, .string (⟨#[]⟩ : ByteArray)] (0, 0) _ rfl (blk_drew (blk_put (blk_put BK4.out 0 _ rfl) 1 _ rfl)) Tryz.underlying24 rfl (by kernel_rfl)) rfl ?_
      exact ⟨_, _, by rw [hR]; rfl, hx, below_drew1 (below_set (below_set HB4.out HG.out) HG.out)⟩
    | false =>
      obtain ⟨t', p', rfl⟩ := hb rfl
      clear hb he
      go_region
      go_wp2_with fail
      refine bodyPost_ret (results_ct rfl _ _ g 24 #[.int .u64 n, .string (⟨#[]⟩ : ByteArray)] (0, 0) _ rfl (blk_drew (blk_put (blk_put BK4.out 0 _ rfl) 1 _ rfl)) Tryz.underlying24 rfl (by kernel_rfl)) rfl ?_
      exact ⟨_, _, by rw [hR]; rfl, hx, below_drew1 (below_set (below_set HB4.out HG.out) HG.out)⟩
  by_cases h1 : k = 1
  · subst h1
    go_enter Tryz.func67, Tryz.ntmps67
    go_wp2_with (((with_reducible refine gate_dst (N := 4) rfl ?_); refine box_event ?hg (N := 4) ?hd (cs := #[.int .u64 0, .string (⟨#[]⟩ : ByteArray)]) (t := 24) ?hr ?_; (case hd => rfl); (case hg => rfl); (case hr => first | (go_simp; done) | (go_simp; rfl)); intro g hg w1 hbox hb; have HB := Aside0.mk hb; have BK := Aside0.mk hbox; have HG := Aside0.mk (show w.heap.size ≤ g from by omega); clear hb hbox hg))
    refine (puint_calls s HS.out _ (HE.out _ HB.out)).mono ?_
    rintro e w2 ⟨v, er, rfl, her, hb⟩
    have HB2 := Aside0.mk (below_step HB.out hb)
    have BK2 := Aside0.mk ((hb.block g (by exact blk_lt BK.out)).trans BK.out)
    clear hb
    have hc0 : w2.cell? ⟨g, 0, none⟩ = some (.int .u64 0) := (blk_cell BK2.out 0).trans rfl
    have hc1 : w2.cell? ⟨g, 1, none⟩ = some (.string (⟨#[]⟩ : ByteArray)) := (blk_cell BK2.out 1).trans rfl
    have hf0 := blk_frozen BK2.out 0
    have hf1 := blk_frozen BK2.out 1
    go_wp2_with fail
    obtain ⟨n, hn⟩ : ∃ n, v = n := ⟨_, rfl⟩
    rw [hn]
    obtain ⟨W4, hW4⟩ : ∃ W, w2.setCell ⟨g, 0, none⟩ (.int .u64 n) = W := ⟨_, rfl⟩
    have BK4 := Aside0.mk (show W4.heap[g]? = some (.cells #[.int .u64 n, .string (⟨#[]⟩ : ByteArray)] 24 (0, 0)) from by rw [← hW4]; exact blk_put BK2.out 0 _ rfl)
    have HB4 := Aside0.mk (show Below w.heap.size w W4 from by rw [← hW4]; exact below_set HB2.out HG.out)
    rw [hW4]
    have hres : ∃ b, er = (if b then .nilIface else er) ∧ (b = false → ∃ t p, er = .iface t p) ∧ (rdv 1 s.data.toList).isSome = b ∧ ∀ x, rdv 1 s.data.toList = some x → x = (n, E0) := by
      cases hp : Lib.parseUintB 64 s.data.toList with
      | ok x =>
        rw [hp] at her
        obtain ⟨rfl, rfl⟩ := her
        have e : rdv 1 s.data.toList = some ((x : Int), E0) := by unfold rdv; rw [if_neg (by decide), if_pos rfl, hp]
        rw [e]
        refine ⟨true, rfl, by simp, rfl, ?_⟩
        rintro x ⟨⟩
        rw [← hn]
      | _ =>
        rw [hp] at her
        have e : rdv 1 s.data.toList = none := by unfold rdv; rw [if_neg (by decide), if_pos rfl, hp]
        rw [e]
        exact ⟨false, rfl, fun _ => her, rfl, by simp⟩
    clear hc0 hc1 hf0 hf1 hn hW4 her BK2 HB2 HB BK HE
    have hc0 : W4.cell? ⟨g, 0, none⟩ = some (.int .u64 n) := (blk_cell BK4.out 0).trans rfl
    have hc1 : W4.cell? ⟨g, 1, none⟩ = some (.string (⟨#[]⟩ : ByteArray)) := (blk_cell BK4.out 1).trans rfl
    have hf0 := blk_frozen BK4.out 0
    have hf1 := blk_frozen BK4.out 1
    obtain ⟨b, he, hb, hR, hx⟩ := hres
    cases b with
    | true =>
      simp only [if_true] at he
      subst he
      clear hb
      go_region
      go_wp2_with fail
      refine bodyPost_ret (results_ct rfl _ _ g 24 #[.int .u64 n, .string (⟨#[]⟩ : ByteArray)] (0, 0) _ rfl (blk_drew (blk_put (blk_put BK4.out 0 _ rfl) 1 _ rfl)) Tryz.underlying24 rfl (by kernel_rfl)) rfl ?_
      exact ⟨_, _, by rw [hR]; rfl, hx, below_drew1 (below_set (below_set HB4.out HG.out) HG.out)⟩
    | false =>
      obtain ⟨t', p', rfl⟩ := hb rfl
      clear hb he
      go_region
      go_wp2_with fail
      refine bodyPost_ret (results_ct rfl _ _ g 24 #[.int .u64 n, .string (⟨#[]⟩ : ByteArray)] (0, 0) _ rfl (blk_drew (blk_put (blk_put BK4.out 0 _ rfl) 1 _ rfl)) Tryz.underlying24 rfl (by kernel_rfl)) rfl ?_
      exact ⟨_, _, by rw [hR]; rfl, hx, below_drew1 (below_set (below_set HB4.out HG.out) HG.out)⟩
  by_cases h2 : k = 2
  · subst h2
    by_cases hT : s.data.toList = TRUE
    · have hT' : s.toList = [116, 114, 117, 101] := by rw [str_toList]; exact hT
      have t1 : (s.toList == ([116, 114, 117, 101] : List UInt8)) = true := by rw [hT']; rfl
      have hR : (rdv 2 s.data.toList).isSome = true := rfl
      have hx : ∀ x, rdv 2 s.data.toList = some x → x = (1, E0) := by
        intro x hx
        unfold rdv at hx
        rw [if_neg (by decide), if_neg (by decide), if_pos rfl, if_pos hT] at hx
        injection hx with hx
        exact hx.symm
      clear hT hT'
      go_enter Tryz.func67, Tryz.ntmps67
      go_wp2_with (((with_reducible refine gate_dst (N := 4) rfl ?_); refine box_event ?hg (N := 4) ?hd (cs := #[.int .u64 0, .string (⟨#[]⟩ : ByteArray)]) (t := 24) ?hr ?_; (case hd => rfl); (case hg => rfl); (case hr => first | (go_simp; done) | (go_simp; rfl)); intro g hg w1 hbox hb; have HB := Aside0.mk hb; have BK := Aside0.mk hbox; have HG := Aside0.mk (show w.heap.size ≤ g from by omega); clear hb hbox hg; have hc0 := (blk_cell BK.out 0).trans rfl; have hf0 := blk_frozen BK.out 0; simp only [List.getElem?_toArray, List.getElem?_cons_zero] at hc0))
      obtain ⟨W4, hW4⟩ : ∃ W, w1.setCell ⟨g, 0, none⟩ (.int .u64 1) = W := ⟨_, rfl⟩
      have BK4 := Aside0.mk (show W4.heap[g]? = some (.cells #[.int .u64 1, .string (⟨#[]⟩ : ByteArray)] 24 (0, 0)) from by rw [← hW4]; exact blk_put BK.out 0 _ rfl)
      have HB4 := Aside0.mk (show Below w.heap.size w W4 from by rw [← hW4]; exact below_set HB.out HG.out)
      rw [hW4]
      clear hc0 hf0 hW4 HB BK HE
      have hc0 : W4.cell? ⟨g, 0, none⟩ = some (.int .u64 1) := (blk_cell BK4.out 0).trans rfl
      have hc1 : W4.cell? ⟨g, 1, none⟩ = some (.string (⟨#[]⟩ : ByteArray)) := (blk_cell BK4.out 1).trans rfl
      have hf0 := blk_frozen BK4.out 0
      have hf1 := blk_frozen BK4.out 1
      go_region
      go_wp2_with fail
      refine bodyPost_ret (results_ct rfl _ _ g 24 #[.int .u64 1, .string (⟨#[]⟩ : ByteArray)] (0, 0) _ rfl (blk_drew (blk_put (blk_put BK4.out 0 _ rfl) 1 _ rfl)) Tryz.underlying24 rfl (by kernel_rfl)) rfl ?_
      exact ⟨_, _, by rw [hR]; rfl, hx, below_drew1 (below_set (below_set HB4.out HG.out) HG.out)⟩
    · have hT' : ¬ s.toList = [116, 114, 117, 101] := by rw [str_toList]; exact hT
      have t1 : (s.toList == ([116, 114, 117, 101] : List UInt8)) = false := beq_eq_false_iff_ne.mpr hT'
      have hR : (rdv 2 s.data.toList).isSome = true := rfl
      have hx : ∀ x, rdv 2 s.data.toList = some x → x = (0, E0) := by
        intro x hx
        unfold rdv at hx
        rw [if_neg (by decide), if_neg (by decide), if_pos rfl, if_neg hT] at hx
        injection hx with hx
        exact hx.symm
      clear hT hT'
      go_enter Tryz.func67, Tryz.ntmps67
      go_wp2_with (((with_reducible refine gate_dst (N := 4) rfl ?_); refine box_event ?hg (N := 4) ?hd (cs := #[.int .u64 0, .string (⟨#[]⟩ : ByteArray)]) (t := 24) ?hr ?_; (case hd => rfl); (case hg => rfl); (case hr => first | (go_simp; done) | (go_simp; rfl)); intro g hg w1 hbox hb; have HB4 := Aside0.mk hb; have BK4 := Aside0.mk hbox; have HG := Aside0.mk (show w.heap.size ≤ g from by omega); clear hb hbox hg))
      clear HE
      have hc0 : w1.cell? ⟨g, 0, none⟩ = some (.int .u64 0) := (blk_cell BK4.out 0).trans rfl
      have hc1 : w1.cell? ⟨g, 1, none⟩ = some (.string (⟨#[]⟩ : ByteArray)) := (blk_cell BK4.out 1).trans rfl
      have hf0 := blk_frozen BK4.out 0
      have hf1 := blk_frozen BK4.out 1
      go_region
      go_wp2_with fail
      refine bodyPost_ret (results_ct rfl _ _ g 24 #[.int .u64 0, .string (⟨#[]⟩ : ByteArray)] (0, 0) _ rfl (blk_drew (blk_put (blk_put BK4.out 0 _ rfl) 1 _ rfl)) Tryz.underlying24 rfl (by kernel_rfl)) rfl ?_
      exact ⟨_, _, by rw [hR]; rfl, hx, below_drew1 (below_set (below_set HB4.out HG.out) HG.out)⟩
  by_cases h5 : k = 5
  · subst h5
    go_enter Tryz.func67, Tryz.ntmps67
    go_wp2_with (((with_reducible refine gate_dst (N := 4) rfl ?_); refine box_event ?hg (N := 4) ?hd (cs := #[.int .u64 0, .string (⟨#[]⟩ : ByteArray)]) (t := 24) ?hr ?_; (case hd => rfl); (case hg => rfl); (case hr => first | (go_simp; done) | (go_simp; rfl)); intro g hg w1 hbox hb; have HB := Aside0.mk hb; have BK := Aside0.mk hbox; have HG := Aside0.mk (show w.heap.size ≤ g from by omega); clear hb hbox hg))
    refine (puint16_calls s HS.out _ (HE.out _ HB.out)).mono ?_
    rintro e w2 ⟨v, er, rfl, her, hb⟩
    have HB2 := Aside0.mk (below_step HB.out hb)
    have BK2 := Aside0.mk ((hb.block g (by exact blk_lt BK.out)).trans BK.out)
    clear hb
    have hc0 : w2.cell? ⟨g, 0, none⟩ = some (.int .u64 0) := (blk_cell BK2.out 0).trans rfl
    have hc1 : w2.cell? ⟨g, 1, none⟩ = some (.string (⟨#[]⟩ : ByteArray)) := (blk_cell BK2.out 1).trans rfl
    have hf0 := blk_frozen BK2.out 0
    have hf1 := blk_frozen BK2.out 1
    go_wp2_with fail
    obtain ⟨n, hn⟩ : ∃ n, v = n := ⟨_, rfl⟩
    rw [hn]
    obtain ⟨W4, hW4⟩ : ∃ W, w2.setCell ⟨g, 0, none⟩ (.int .u64 n) = W := ⟨_, rfl⟩
    have BK4 := Aside0.mk (show W4.heap[g]? = some (.cells #[.int .u64 n, .string (⟨#[]⟩ : ByteArray)] 24 (0, 0)) from by rw [← hW4]; exact blk_put BK2.out 0 _ rfl)
    have HB4 := Aside0.mk (show Below w.heap.size w W4 from by rw [← hW4]; exact below_set HB2.out HG.out)
    rw [hW4]
    have hres : ∃ b, er = (if b then .nilIface else er) ∧ (b = false → ∃ t p, er = .iface t p) ∧ (rdv 5 s.data.toList).isSome = b ∧ ∀ x, rdv 5 s.data.toList = some x → x = (n, E0) := by
      cases hp : parseX0 s.data.toList with
      | ok x =>
        rw [hp] at her
        obtain ⟨rfl, rfl⟩ := her
        have e : rdv 5 s.data.toList = some ((x : Int), E0) := by unfold rdv; rw [if_neg (by decide), if_neg (by decide), if_neg (by decide), if_pos rfl, hp]
        rw [e]
        refine ⟨true, rfl, by simp, rfl, ?_⟩
        rintro x ⟨⟩
        rw [← hn]
      | _ =>
        rw [hp] at her
        have e : rdv 5 s.data.toList = none := by unfold rdv; rw [if_neg (by decide), if_neg (by decide), if_neg (by decide), if_pos rfl, hp]
        rw [e]
        exact ⟨false, rfl, fun _ => her, rfl, by simp⟩
    clear hc0 hc1 hf0 hf1 hn hW4 her BK2 HB2 HB BK HE
    have hc0 : W4.cell? ⟨g, 0, none⟩ = some (.int .u64 n) := (blk_cell BK4.out 0).trans rfl
    have hc1 : W4.cell? ⟨g, 1, none⟩ = some (.string (⟨#[]⟩ : ByteArray)) := (blk_cell BK4.out 1).trans rfl
    have hf0 := blk_frozen BK4.out 0
    have hf1 := blk_frozen BK4.out 1
    obtain ⟨b, he, hb, hR, hx⟩ := hres
    cases b with
    | true =>
      simp only [if_true] at he
      subst he
      clear hb
      go_region
      go_wp2_with fail
      refine bodyPost_ret (results_ct rfl _ _ g 24 #[.int .u64 n, .string (⟨#[]⟩ : ByteArray)] (0, 0) _ rfl (blk_drew (blk_put (blk_put BK4.out 0 _ rfl) 1 _ rfl)) Tryz.underlying24 rfl (by kernel_rfl)) rfl ?_
      exact ⟨_, _, by rw [hR]; rfl, hx, below_drew1 (below_set (below_set HB4.out HG.out) HG.out)⟩
    | false =>
      obtain ⟨t', p', rfl⟩ := hb rfl
      clear hb he
      go_region
      go_wp2_with fail
      refine bodyPost_ret (results_ct rfl _ _ g 24 #[.int .u64 n, .string (⟨#[]⟩ : ByteArray)] (0, 0) _ rfl (blk_drew (blk_put (blk_put BK4.out 0 _ rfl) 1 _ rfl)) Tryz.underlying24 rfl (by kernel_rfl)) rfl ?_
      exact ⟨_, _, by rw [hR]; rfl, hx, below_drew1 (below_set (below_set HB4.out HG.out) HG.out)⟩
  have k0 : (k == 0) = false := beq_eq_false_iff_ne.mpr h0
  have k1 : (k == 1) = false := beq_eq_false_iff_ne.mpr h1
  have k2 : (k == 2) = false := beq_eq_false_iff_ne.mpr h2
  have k5 : (k == 5) = false := beq_eq_false_iff_ne.mpr h5
  have hR0 : rdv k s.data.toList = (told s.data.toList).map fun t => ((0 : Int), (⟨t.toArray⟩ : ByteArray)) := by unfold rdv; rw [if_neg h0, if_neg h1, if_neg h2, if_neg h5]
  obtain ⟨t, HT, hR, hx⟩ : ∃ t : ByteArray, Aside0 (∀ W, Calls Tryz.prog 116 #[.string s] W fun e w' => e = .returned (.tuple #[.string t, .bool (told s.data.toList).isSome]) ∧ Below W.heap.size W w') ∧ (rdv k s.data.toList).isSome = (told s.data.toList).isSome ∧ ∀ x, rdv k s.data.toList = some x → x = ((0 : Int), t) := by
    refine ⟨_, ⟨fun W => told_calls s HS.out W⟩, ?_, ?_⟩
    · rw [hR0]; cases told s.data.toList <;> rfl
    · rw [hR0]
      cases told s.data.toList with
      | none => simp
      | some t => rintro x ⟨⟩; rfl
  obtain ⟨b, hb⟩ : ∃ b, (told s.data.toList).isSome = b := ⟨_, rfl⟩
  rw [hb] at HT hR
  clear hR0 hb h0 h1 h2 h5 HE
  go_enter Tryz.func67, Tryz.ntmps67
  go_wp2_with (((with_reducible refine gate_dst (N := 4) rfl ?_); refine box_event ?hg (N := 4) ?hd (cs := #[.int .u64 0, .string (⟨#[]⟩ : ByteArray)]) (t := 24) ?hr ?_; (case hd => rfl); (case hg => rfl); (case hr => first | (go_simp; done) | (go_simp; rfl)); intro g hg w1 hbox hb; have HB := Aside0.mk hb; have BK := Aside0.mk hbox; have HG := Aside0.mk (show w.heap.size ≤ g from by omega); clear hb hbox hg))
  refine (HT.out _).mono ?_
  rintro e w2 ⟨rfl, hb⟩
  have HB2 := Aside0.mk (below_step HB.out hb)
  have BK2 := Aside0.mk ((hb.block g (by exact blk_lt BK.out)).trans BK.out)
  clear hb HT HB BK
  have hc0 : w2.cell? ⟨g, 0, none⟩ = some (.int .u64 0) := (blk_cell BK2.out 0).trans rfl
  have hc1 : w2.cell? ⟨g, 1, none⟩ = some (.string (⟨#[]⟩ : ByteArray)) := (blk_cell BK2.out 1).trans rfl
  have hf0 := blk_frozen BK2.out 0
  have hf1 := blk_frozen BK2.out 1
  go_wp2_with fail
  refine bodyPost_ret (results_ct rfl _ _ g 24 #[.int .u64 0, .string t] (0, 0) _ rfl (blk_put (blk_put (blk_put BK2.out 1 _ rfl) 0 _ rfl) 1 _ rfl) Tryz.underlying24 rfl (by kernel_rfl)) rfl ?_
  exact ⟨_, _, by rw [hR]; rfl, hx, below_set (below_set (below_set HB2.out HG.out) HG.out) HG.out⟩
end Go.Proofs.YtciolchdihlgfaaGreatDoor.Tx
