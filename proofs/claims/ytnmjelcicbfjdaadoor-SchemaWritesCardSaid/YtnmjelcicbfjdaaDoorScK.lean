import Derived.Test.YtnmjelcicbfjdaaDoorScJ
/-! Schema: Text, and the document's. -/
namespace Go.Proofs.YtnmjelcicbfjdaaDoor.Sc
open Go.RowKit Go.Proofs.YtnmjelcicbfjdaaDoorW.PrintWords Go.Proofs.YtnmjelcicbfjdaaDoorW.PrintLast Go.Proofs.YtnmjelcicbfjdaaDoorW.PrintMore Go.Proofs.YtnmjelcicbfjdaaDoor.Wire Go.Proofs.YtnmjelcicbfjdaaDoor.PSc Go.Proofs.YtnmjelcicbfjdaaDoor.Co Go.Proofs.YtnmjelcicbfjdaaDoor.Ce
set_option linter.unusedVariables false
set_option linter.unusedSimpArgs false
set_option maxRecDepth 100000
/-- A kind's name. -/
def kname (k : Int) : ByteArray := NAMES.getD k.toNat ByteArray.empty
/-- A column's text. -/
def colTx (c : Col) : List UInt8 := c.f0.data.toList ++ 58 :: (kname c.f1).data.toList
def colS (c : Col) : ByteArray := (c.f0 ++ ⟨#[58]⟩) ++ kname c.f1
theorem colS_list (c : Col) : (colS c).data.toList = colTx c := by
  unfold colS colTx
  rw [ByteArray.data_append, ByteArray.data_append, Array.toList_append, Array.toList_append, List.append_assoc]; rfl
def txL (l : List Col) : List UInt8 := Lib.join (l.map colTx) [44]
/-- The text of columns that may be. -/
def txt (l : List Col) : ByteArray := ⟨(txL l).toArray⟩
def stxt (l : List Col) : ByteArray := if sck l = 0 then txt l else ⟨#[]⟩
theorem txL_snoc (l : List Col) (c : Col) : txL (l ++ [c]) = (if 0 < l.length then txL l ++ [44] else txL l) ++ colTx c := by
  unfold txL
  cases l with
  | nil => simp [Lib.join_one, Lib.join_nil]
  | cons x r =>
    rw [if_pos (by simp), List.map_append, List.map_cons, List.cons_append, Lib.join_cons, Lib.join_cons]
    have : Lib.joinTail [44] (r.map colTx ++ [c].map colTx) = Lib.joinTail [44] (r.map colTx) ++ [44] ++ colTx c := by
      unfold Lib.joinTail
      simp
    rw [this]; simp
theorem kname_len (k : Int) : (kname k).size ≤ 5 := by
  unfold kname
  rw [List.getD_eq_getElem?_getD]
  cases e : NAMES[k.toNat]? with
  | none => exact Nat.zero_le _
  | some x =>
    have := List.mem_of_getElem? e
    have all : ∀ y ∈ NAMES, y.size ≤ 5 := by decide
    exact all x this
theorem colTx_len (c : Col) : (colTx c).length ≤ c.f0.size + 6 := by
  unfold colTx
  rw [List.length_append, List.length_cons, data_length, data_length]
  have := kname_len c.f1
  omega
theorem txL_len : ∀ n (l : List Col), l.length = n → (∀ c ∈ l, c.f0.size ≤ 32) → (txL l).length ≤ 39 * n
  | 0, l, hn, _ => by rw [List.length_eq_zero_iff.1 hn]; exact Nat.zero_le _
  | n + 1, l, hn, h => by
    have hne : l ≠ [] := fun e => by rw [e] at hn; simp at hn
    have e := List.dropLast_concat_getLast hne
    rw [← e, txL_snoc, List.length_append]
    have h1 := txL_len n l.dropLast (by rw [List.length_dropLast]; omega) (fun c hc => h c (List.dropLast_subset _ hc))
    have h2 := colTx_len (l.getLast hne)
    have h3 := h _ (List.getLast_mem hne)
    split
    · rw [List.length_append]; simp only [List.length_cons, List.length_nil]; omega
    · omega
theorem take_snoc {l : List Col} {j : Nat} (h : j < l.length) : l.take (j + 1) = l.take j ++ [rd_T54 l (j : Int)] := by
  rw [List.take_add_one, List.getElem?_eq_getElem h, rd_get h]; rfl
theorem str_add (a b : ByteArray) (h : a.size + b.size ≤ 9223372036854775807) : Op.stringOp .add a b = pure (.string (a ++ b)) := by
  have h : ¬ (((a.size + b.size : Nat) : Int) > IntKind.i64.max) := by rw [show IntKind.i64.max = 9223372036854775807 from rfl]; omega
  exact if_neg h
theorem ba_eq (s : ByteArray) (l : List UInt8) (h : s.data.toList = l) : s = ⟨l.toArray⟩ := by
  refine ByteArray.ext (Array.toList_inj.1 ?_)
  rw [h]
theorem infoS : (Tryd.prog.info? 9).map (fun i => (i.zero, i.size, i.bytes)) = some (some (.string ⟨#[]⟩), 1, 16) := by kernel_rfl
theorem lit1s {w : World} {g : Nat} {z : ByteArray} {t : TypeId} (h : w.heap[g]? = some (.cells #[.string z] t (0, 0))) : Kd.C Kd.string w (some ⟨g, 0, none⟩) 1 [z] := by
  refine Kd.C_of_reads (d := ByteArray.empty) (h1 := fun _ => rfl) ⟨rfl, by omega, fun _ => ⟨_, rfl, fun j hj => ?_⟩⟩
  obtain rfl : j = 0 := by omega
  rw [add_plain, blk_cell h]
  rfl
theorem cell_keep {w w' : World} {p : Addr} {v : Value} (h : w.cell? p = some v) (hb : Below w.heap.size w w') : w'.cell? p = some v := (Below.cell hb (cell_lt h)).trans h
set_option maxHeartbeats 16000000 in
theorem rtext_calls {A : Option Addr} {c : Nat} {l : List Col} (w : World) (hk : sck l = 0) (hr : Kd.C k54 w A l.length l) (hc : l.length ≤ c) :
    Calls Tryd.prog 36 #[.slice A l.length c] w fun e w' => e = .returned (.string (txt l)) ∧ Below w.heap.size w w' := by
  have HR := Aside0.mk hr
  obtain ⟨⟨hn0, hn8⟩, hall⟩ := sck_small hk
  have HALL := Aside0.mk hall
  have HN8 := Aside0.mk hn8
  obtain ⟨n, hn⟩ : ∃ n, l.length = n := ⟨_, rfl⟩
  have HN := Aside0.mk hn
  rw [hn]
  clear hr hc hk hn hn0 hn8 hall
  go_enter Tryd.func36, Tryd.ntmps36
  go_wp2_with fail
  go_loopw [3, 4] (fun v i wr => ∃ (j : Nat) (T : ByteArray), j ≤ n ∧ i = .int .i64 (j : Int) ∧ v = .string T ∧ Aside0 (T = txt (l.take j)) ∧ Aside0 (Below w.heap.size w wr)) (fun _ i _ => n - (intOf i).toNat)
  case atStart => exact ⟨0, ⟨#[]⟩, by omega, rfl, rfl, ⟨by rw [List.take_zero]; rfl⟩, ⟨Below.refl _ _⟩⟩
  case round =>
    obtain ⟨j, T, hj, rfl, rfl, HT, HB⟩ := hrel
    by_cases hlt : j < n
    · have u1 : decide ((j : Int) < (n : Int)) = true := decide_eq_true (by omega)
      have u2 : decide (j < n) = true := decide_eq_true hlt
      have HLT := Aside0.mk hlt
      have HTL := Aside0.mk (show T.size ≤ 312 from by
        rw [HT.out]; unfold txt; rw [← data_length]; rw [List.toList_toArray]
        have := txL_len j (l.take j) (by rw [List.length_take]; have := HN.out; omega) (fun c hc => (HALL.out c (List.mem_of_mem_take hc)).1)
        have := HN8.out; have := HN.out; omega)
      have HSN := Aside0.mk (show txL (l.take (j + 1)) = (if 0 < j then txL (l.take j) ++ [44] else txL (l.take j)) ++ colTx (rd_T54 l (j : Int)) from by
        rw [take_snoc (by have := HN.out; omega), txL_snoc, List.length_take, Nat.min_eq_left (by have := HN.out; omega)])
      have HTT := Aside0.mk (show T.data.toList = txL (l.take j) from by rw [HT.out]; rfl)
      obtain ⟨T2, hT2⟩ : ∃ T2 : ByteArray, T2 = (if 0 < j then T ++ ⟨#[44]⟩ else T) := ⟨_, rfl⟩
      have HT2 := Aside0.mk (show T2.data.toList = (if 0 < j then txL (l.take j) ++ [44] else txL (l.take j)) from by
        rw [hT2, ← HTT.out]; split
        · rw [ByteArray.data_append, Array.toList_append]
        · rfl)
      have HTL2 := Aside0.mk (show T2.size ≤ 313 from by
        rw [hT2]; split
        · rw [ByteArray.size_append]; have := HTL.out; have e : (⟨#[44]⟩ : ByteArray).size = 1 := rfl; omega
        · have := HTL.out; omega)
      have HE2 := Aside0.mk hT2
      have HC := Aside0.mk (HALL.out _ (rd_mem (l := l) (j := j) (by have := HN.out; omega)))
      have HZ := Aside0.mk (str_add T ⟨#[44]⟩ (by have := HTL.out; have e : (⟨#[44]⟩ : ByteArray).size = 1 := rfl; omega))
      have HMX := Aside0.mk (show (j : Int) + 1 ≤ 9223372036854775807 by have := HN8.out; have := HN.out; omega)
      clear hj hlt hT2 HT
      by_cases hj0 : 0 < j
      · have g1 : decide ((0 : Int) < (j : Int)) = true := decide_eq_true (by omega)
        have g2 : decide (0 < j) = true := decide_eq_true hj0
        have he := HE2.out
        rw [if_pos hj0] at he
        have HE3 := Aside0.mk he
        have hadd := HZ.out
        clear hj0 he HE2 HZ
        go_wp2_with fail
        rw [← HE3.out]
        clear hadd g1 g2
        obtain ⟨ad, e, h0, h1⟩ := at_T54 (Kd.C_below HR.out HB.out) (j : Int) (by omega) (by have := HN.out; have := HLT.out; omega)
        cases e
        rw [Int.toNat_natCast] at h0 h1
        obtain ⟨C, hC⟩ : ∃ C, rd_T54 l (j : Int) = C := ⟨_, rfl⟩
        rw [hC] at h0 h1 HSN HC
        obtain ⟨s, kd⟩ := C
        simp only at h0 h1 HC
        obtain ⟨kn, rfl⟩ : ∃ kn : Nat, kd = (kn : Int) := ⟨kd.toNat, by have := HC.out; omega⟩
        have p1 : (0 ≤ (j : Int)) = True := eq_true (by omega)
        have p2 : ((j : Int) < (n : Int)) = True := eq_true (by have := HLT.out; omega)
        have p3 : ((kn : Int) < 6) = True := eq_true (by have := HC.out; omega)
        have p4 : (kn < 6) = True := eq_true (by have := HC.out; omega)
        have p5 : (0 ≤ (kn : Int)) = True := eq_true (by omega)
        have a1 := str_add T2 s (by have := HTL2.out; have := HC.out; omega)
        have a2 := str_add (T2 ++ s) ⟨#[58]⟩ (by rw [ByteArray.size_append]; have := HTL2.out; have := HC.out; have e : (⟨#[58]⟩ : ByteArray).size = 1 := rfl; omega)
        have a3 := str_add (T2 ++ s ++ ⟨#[58]⟩) (kname (kn : Int)) (by rw [ByteArray.size_append, ByteArray.size_append]; have := HTL2.out; have := HC.out; have := kname_len (kn : Int); have e : (⟨#[58]⟩ : ByteArray).size = 1 := rfl; omega)
        clear hC
        refine start_ (n := 18) (S := fun w' => w'.cell? (ad.add (j * 2)) = some (.string s) ∧ w'.cell? ⟨(ad.add (j * 2)).block, (ad.add (j * 2)).off + 1, none⟩ = some (.int .i64 (kn : Int))) (ds := []) #[false, false, false, false, false, false, false, false, false, false, false, false, false, false, false, false, false, false] (by kernel_rfl) rfl rfl ⟨h0, h1⟩ (fun hHeld => ?_)
        have f0 := And.intro h0 h1
        have f1 : wr.drew.cell? (ad.add (j * 2)) = some (.string s) ∧ wr.drew.cell? ⟨(ad.add (j * 2)).block, (ad.add (j * 2)).off + 1, none⟩ = some (.int .i64 (kn : Int)) := f0
        replace HB := Aside0.mk (below_drew1 HB.out)
        clear f0 h0 h1
        generalize wr.drew = W at *
        refine pure_ (i := 0) (N := some 15) (v := ?_) (a' := ?_) #[true, false, false, false, false, false, false, false, false, false, false, false, false, false, false, false, false, false] rfl rfl (any_of rfl (by kernel_rfl)) (fun _ _ _ h => h) (Or.inl ⟨by rfl, ?_⟩) ?_ ?_
        rotate_left
        · intro w'
          go_simp
          with_reducible rfl
        rotate_left
        · simp only [Act.put, List.setIfInBounds_toArray, List.set_cons_zero, List.set_cons_succ, i64_w, i32_w]
          rfl
        refine pure_ (i := 1) (N := some 16) (v := ?_) (a' := ?_) #[true, true, false, false, false, false, false, false, false, false, false, false, false, false, false, false, false, false] rfl rfl (any_of rfl (by kernel_rfl)) (fun _ _ _ h => h) (Or.inl ⟨by rfl, ?_⟩) ?_ ?_
        rotate_left
        · intro w'
          go_simp
          with_reducible rfl
        rotate_left
        · simp only [Act.put, List.setIfInBounds_toArray, List.set_cons_zero, List.set_cons_succ, i64_w, i32_w]
          rfl
        refine pure_ (i := 2) (N := some 17) (v := ?_) (a' := ?_) #[true, true, true, false, false, false, false, false, false, false, false, false, false, false, false, false, false, false] rfl rfl (any_of rfl (by kernel_rfl)) (fun _ _ _ h => h) (Or.inl ⟨by rfl, ?_⟩) ?_ ?_
        rotate_left
        · intro w'
          go_simp
          with_reducible rfl
        rotate_left
        · simp only [Act.put, List.setIfInBounds_toArray, List.set_cons_zero, List.set_cons_succ, i64_w, i32_w]
          rfl
        refine pure_ (i := 9) (N := some 24) (v := ?_) (a' := ?_) #[true, true, true, false, false, false, false, false, false, true, false, false, false, false, false, false, false, false] rfl rfl (any_of rfl (by kernel_rfl)) (fun _ _ _ h => h) (Or.inl ⟨by rfl, ?_⟩) ?_ ?_
        rotate_left
        · intro w'
          go_simp
          with_reducible rfl
        rotate_left
        · simp only [Act.put, List.setIfInBounds_toArray, List.set_cons_zero, List.set_cons_succ, i64_w, i32_w]
          rfl
        refine pure_ (i := 10) (N := some 25) (v := ?_) (a' := ?_) #[true, true, true, false, false, false, false, false, false, true, true, false, false, false, false, false, false, false] rfl rfl (any_of rfl (by kernel_rfl)) (fun _ _ _ h => h) (Or.inl ⟨by rfl, ?_⟩) ?_ ?_
        rotate_left
        · intro w'
          go_simp
          with_reducible rfl
        rotate_left
        · simp only [Act.put, List.setIfInBounds_toArray, List.set_cons_zero, List.set_cons_succ, i64_w, i32_w]
          rfl
        refine pure_ (i := 3) (N := some 18) (v := ?_) (a' := ?_) #[true, true, true, true, false, false, false, false, false, true, true, false, false, false, false, false, false, false] rfl rfl (any_of rfl (by kernel_rfl)) (fun _ _ _ h => h) (Or.inl ⟨by rfl, ?_⟩) ?_ ?_
        rotate_left
        · intro w'
          go_simp
          with_reducible rfl
        rotate_left
        · simp only [Act.put, List.setIfInBounds_toArray, List.set_cons_zero, List.set_cons_succ, i64_w, i32_w]
          rfl
        refine pure_ (i := 4) (N := some 19) (v := ?_) (a' := ?_) #[true, true, true, true, true, false, false, false, false, true, true, false, false, false, false, false, false, false] rfl rfl (any_of rfl (by kernel_rfl)) (fun _ _ _ h => h) (Or.inl ⟨by rfl, ?_⟩) ?_ ?_
        rotate_left
        · intro w'
          go_simp
          with_reducible rfl
        rotate_left
        · simp only [Act.put, List.setIfInBounds_toArray, List.set_cons_zero, List.set_cons_succ, i64_w, i32_w]
          rfl
        refine pure_ (i := 11) (N := some 26) (v := ?_) (a' := ?_) #[true, true, true, true, true, false, false, false, false, true, true, true, false, false, false, false, false, false] rfl rfl (any_of rfl (by kernel_rfl)) (fun _ _ _ h => h) (Or.inl ⟨by rfl, ?_⟩) ?_ ?_
        rotate_left
        · intro w'
          go_simp
          with_reducible rfl
        rotate_left
        · simp only [Act.put, List.setIfInBounds_toArray, List.set_cons_zero, List.set_cons_succ, i64_w, i32_w]
          rfl
        refine pure_ (i := 12) (N := some 27) (v := ?_) (a' := ?_) #[true, true, true, true, true, false, false, false, false, true, true, true, true, false, false, false, false, false] rfl rfl (any_of rfl (by kernel_rfl)) (fun _ _ _ h => h) (Or.inl ⟨by rfl, ?_⟩) ?_ ?_
        rotate_left
        · intro w'
          go_simp
          with_reducible rfl
        rotate_left
        · simp only [Act.put, List.setIfInBounds_toArray, List.set_cons_zero, List.set_cons_succ, i64_w, i32_w]
          rfl
        refine take_ (i := 5) (N := some 20) (v := ?_) (a' := ?_) #[true, true, true, true, true, true, false, false, false, true, true, true, true, false, false, false, false, false] rfl rfl (take_of rfl (by kernel_rfl)) (fun _ _ _ h => h) (Or.inl ⟨by rfl, ?_⟩) hHeld ?_ ?_
        rotate_left
        · rintro w' ⟨s0, s1⟩
          go_simp
          with_reducible rfl
        rotate_left
        · simp only [Act.put, List.setIfInBounds_toArray, List.set_cons_zero, List.set_cons_succ, i64_w, i32_w]
          rfl
        refine take_ (i := 13) (N := some 28) (v := ?_) (a' := ?_) #[true, true, true, true, true, true, false, false, false, true, true, true, true, true, false, false, false, false] rfl rfl (take_of rfl (by kernel_rfl)) (fun _ _ _ h => h) (Or.inl ⟨by rfl, ?_⟩) hHeld ?_ ?_
        rotate_left
        · rintro w' ⟨s0, s1⟩
          go_simp
          with_reducible rfl
        rotate_left
        · simp only [Act.put, List.setIfInBounds_toArray, List.set_cons_zero, List.set_cons_succ, i64_w, i32_w]
          rfl
        refine pure_ (i := 6) (N := some 21) (v := ?_) (a' := ?_) #[true, true, true, true, true, true, true, false, false, true, true, true, true, true, false, false, false, false] rfl rfl (any_of rfl (by kernel_rfl)) (fun _ _ _ h => h) (Or.inl ⟨by rfl, ?_⟩) ?_ ?_
        rotate_left
        · intro w'
          go_simp
          with_reducible rfl
        rotate_left
        · simp only [Act.put, List.setIfInBounds_toArray, List.set_cons_zero, List.set_cons_succ, i64_w, i32_w]
          rfl
        refine pure_ (i := 7) (N := some 22) (v := ?_) (a' := ?_) #[true, true, true, true, true, true, true, true, false, true, true, true, true, true, false, false, false, false] rfl rfl (any_of rfl (by kernel_rfl)) (fun _ _ _ h => h) (Or.inl ⟨by rfl, ?_⟩) ?_ ?_
        rotate_left
        · intro w'
          go_simp
          with_reducible rfl
        rotate_left
        · simp only [Act.put, List.setIfInBounds_toArray, List.set_cons_zero, List.set_cons_succ, i64_w, i32_w]
          rfl
        refine one_ (i := 8) (N := some 23) #[true, true, true, true, true, true, true, true, true, true, true, true, true, true, false, false, false, false] rfl rfl (one_of rfl (by kernel_rfl)) (by decide) (fun K hK => ?_)
        refine goes_ Tryd.func22 (by kernel_rfl) rfl #[] (by rfl) rfl rfl (by first | rfl | (simp; done)) ?_
        refine (PCo.deckleref04_Names.calls _ _ rfl).mono ?_
        rintro e w2 ⟨v2, rfl, hv, hb⟩
        refine ⟨_, rfl, ?_⟩
        obtain ⟨g3, cap3, rfl, -, -, -⟩ := Kd.R_form hv (by decide)
        have hC3 : Kd.C Kd.string w2 (some ⟨g3, 0, none⟩) 6 NAMES := (Kd.R_reads' hv).2.2
        simp only [List.length_cons, List.length_nil]
        refine hK.out _ _ ⟨cell_keep f1.1 hb, cell_keep f1.2 hb⟩ (fun hHeld => ?_)
        clear hK K
        refine norm_ (a' := ?_) ?_ ?_
        rotate_left
        · show Act.put _ (some 23) _ = _
          simp only [Act.put, List.setIfInBounds_toArray, List.set_cons_zero, List.set_cons_succ, i64_w, i32_w]
          rfl
        replace HB := Aside0.mk (below_step HB.out hb)
        obtain ⟨z3, hz3, r3⟩ := (Kd.reads_of_C (d := ByteArray.empty) hC3).2.2 (by omega)
        obtain rfl : (⟨g3, 0, none⟩ : Addr) = z3 := Option.some.inj hz3
        have hk3 : w2.cell? ⟨g3, kn, none⟩ = some (.string (kname (kn : Int))) := by
          have := r3 kn (by have := HC.out; omega)
          rw [add_plain] at this
          unfold kname
          rw [Int.toNat_natCast]; exact this
        have f2 : w2.cell? (ad.add (j * 2)) = some (.string s) ∧ w2.cell? ⟨(ad.add (j * 2)).block, (ad.add (j * 2)).off + 1, none⟩ = some (.int .i64 (kn : Int)) := ⟨cell_keep f1.1 hb, cell_keep f1.2 hb⟩
        clear hv r3 hz3 hC3
        refine pure_ (i := 14) (N := some 29) (v := ?_) (a' := ?_) #[true, true, true, true, true, true, true, true, true, true, true, true, true, true, true, false, false, false] rfl rfl (any_of rfl (by kernel_rfl)) (fun _ _ _ h => h) (Or.inl ⟨by rfl, ?_⟩) ?_ ?_
        rotate_left
        · intro w'
          go_simp
          with_reducible rfl
        rotate_left
        · simp only [Act.put, List.setIfInBounds_toArray, List.set_cons_zero, List.set_cons_succ, i64_w, i32_w]
          rfl
        refine one_ (i := 15) (N := some 30) #[true, true, true, true, true, true, true, true, true, true, true, true, true, true, true, true, false, false] rfl rfl (one_of rfl (by kernel_rfl)) (by decide) (fun K hK => ?_)
        refine value_ (v := .string (kname (kn : Int))) (w1 := w2) (by rfl) rfl (by go_simp) ?_
        refine hK.out _ _ f2 (fun hHeld => ?_)
        clear hK K
        refine norm_ (a' := ?_) ?_ ?_
        rotate_left
        · show Act.put _ (some 30) _ = _
          simp only [Act.put, List.setIfInBounds_toArray, List.set_cons_zero, List.set_cons_succ, i64_w, i32_w]
          rfl
        refine pure_ (i := 16) (N := some 31) (v := ?_) (a' := ?_) #[true, true, true, true, true, true, true, true, true, true, true, true, true, true, true, true, true, false] rfl rfl (any_of rfl (by kernel_rfl)) (fun _ _ _ h => h) (Or.inl ⟨by rfl, ?_⟩) ?_ ?_
        rotate_left
        · intro w'
          go_simp
          with_reducible rfl
        rotate_left
        · simp only [Act.put, List.setIfInBounds_toArray, List.set_cons_zero, List.set_cons_succ, i64_w, i32_w]
          rfl
        refine pure_ (i := 17) (N := some 3) (v := ?_) (a' := ?_) #[true, true, true, true, true, true, true, true, true, true, true, true, true, true, true, true, true, true] rfl rfl (any_of rfl (by kernel_rfl)) (fun _ _ _ h => h) (Or.inl ⟨by rfl, ?_⟩) ?_ ?_
        rotate_left
        · intro w'
          go_simp
          with_reducible rfl
        rotate_left
        · simp only [Act.put, List.setIfInBounds_toArray, List.set_cons_zero, List.set_cons_succ, i64_w, i32_w]
          rfl
        refine done_ (done_of rfl (by kernel_rfl)) ?_
        have hmax := HMX.out
        clear a1 a2 a3 hk3 hHeld p1 p2 p3 p4 p5
        go_wp2_with fail
        go_roundw
        case rel => exact ⟨j + 1, _, HLT.out, by go_num, rfl, ⟨by
          refine ba_eq _ _ ?_
          rw [HSN.out, ByteArray.data_append, ByteArray.data_append, ByteArray.data_append, Array.toList_append, Array.toList_append, Array.toList_append, HT2.out, List.append_assoc, List.append_assoc]
          first | done | rfl⟩, ⟨HB.out⟩⟩
        case measure => have := HLT.out; simp [intOf]; omega
      · have g1 : decide ((0 : Int) < (j : Int)) = false := decide_eq_false (by omega)
        have g2 : decide (0 < j) = false := decide_eq_false hj0
        have he := HE2.out
        rw [if_neg hj0] at he
        subst he
        clear hj0 HE2 HZ
        go_wp2_with fail
        clear g1 g2
        obtain ⟨ad, e, h0, h1⟩ := at_T54 (Kd.C_below HR.out HB.out) (j : Int) (by omega) (by have := HN.out; have := HLT.out; omega)
        cases e
        rw [Int.toNat_natCast] at h0 h1
        obtain ⟨C, hC⟩ : ∃ C, rd_T54 l (j : Int) = C := ⟨_, rfl⟩
        rw [hC] at h0 h1 HSN HC
        obtain ⟨s, kd⟩ := C
        simp only at h0 h1 HC
        obtain ⟨kn, rfl⟩ : ∃ kn : Nat, kd = (kn : Int) := ⟨kd.toNat, by have := HC.out; omega⟩
        have p1 : (0 ≤ (j : Int)) = True := eq_true (by omega)
        have p2 : ((j : Int) < (n : Int)) = True := eq_true (by have := HLT.out; omega)
        have p3 : ((kn : Int) < 6) = True := eq_true (by have := HC.out; omega)
        have p4 : (kn < 6) = True := eq_true (by have := HC.out; omega)
        have p5 : (0 ≤ (kn : Int)) = True := eq_true (by omega)
        have a1 := str_add T2 s (by have := HTL2.out; have := HC.out; omega)
        have a2 := str_add (T2 ++ s) ⟨#[58]⟩ (by rw [ByteArray.size_append]; have := HTL2.out; have := HC.out; have e : (⟨#[58]⟩ : ByteArray).size = 1 := rfl; omega)
        have a3 := str_add (T2 ++ s ++ ⟨#[58]⟩) (kname (kn : Int)) (by rw [ByteArray.size_append, ByteArray.size_append]; have := HTL2.out; have := HC.out; have := kname_len (kn : Int); have e : (⟨#[58]⟩ : ByteArray).size = 1 := rfl; omega)
        clear hC
        refine start_ (n := 18) (S := fun w' => w'.cell? (ad.add (j * 2)) = some (.string s) ∧ w'.cell? ⟨(ad.add (j * 2)).block, (ad.add (j * 2)).off + 1, none⟩ = some (.int .i64 (kn : Int))) (ds := []) #[false, false, false, false, false, false, false, false, false, false, false, false, false, false, false, false, false, false] (by kernel_rfl) rfl rfl ⟨h0, h1⟩ (fun hHeld => ?_)
        have f0 := And.intro h0 h1
        have f1 : wr.drew.cell? (ad.add (j * 2)) = some (.string s) ∧ wr.drew.cell? ⟨(ad.add (j * 2)).block, (ad.add (j * 2)).off + 1, none⟩ = some (.int .i64 (kn : Int)) := f0
        replace HB := Aside0.mk (below_drew1 HB.out)
        clear f0 h0 h1
        generalize wr.drew = W at *
        refine pure_ (i := 0) (N := some 15) (v := ?_) (a' := ?_) #[true, false, false, false, false, false, false, false, false, false, false, false, false, false, false, false, false, false] rfl rfl (any_of rfl (by kernel_rfl)) (fun _ _ _ h => h) (Or.inl ⟨by rfl, ?_⟩) ?_ ?_
        rotate_left
        · intro w'
          go_simp
          with_reducible rfl
        rotate_left
        · simp only [Act.put, List.setIfInBounds_toArray, List.set_cons_zero, List.set_cons_succ, i64_w, i32_w]
          rfl
        refine pure_ (i := 1) (N := some 16) (v := ?_) (a' := ?_) #[true, true, false, false, false, false, false, false, false, false, false, false, false, false, false, false, false, false] rfl rfl (any_of rfl (by kernel_rfl)) (fun _ _ _ h => h) (Or.inl ⟨by rfl, ?_⟩) ?_ ?_
        rotate_left
        · intro w'
          go_simp
          with_reducible rfl
        rotate_left
        · simp only [Act.put, List.setIfInBounds_toArray, List.set_cons_zero, List.set_cons_succ, i64_w, i32_w]
          rfl
        refine pure_ (i := 2) (N := some 17) (v := ?_) (a' := ?_) #[true, true, true, false, false, false, false, false, false, false, false, false, false, false, false, false, false, false] rfl rfl (any_of rfl (by kernel_rfl)) (fun _ _ _ h => h) (Or.inl ⟨by rfl, ?_⟩) ?_ ?_
        rotate_left
        · intro w'
          go_simp
          with_reducible rfl
        rotate_left
        · simp only [Act.put, List.setIfInBounds_toArray, List.set_cons_zero, List.set_cons_succ, i64_w, i32_w]
          rfl
        refine pure_ (i := 9) (N := some 24) (v := ?_) (a' := ?_) #[true, true, true, false, false, false, false, false, false, true, false, false, false, false, false, false, false, false] rfl rfl (any_of rfl (by kernel_rfl)) (fun _ _ _ h => h) (Or.inl ⟨by rfl, ?_⟩) ?_ ?_
        rotate_left
        · intro w'
          go_simp
          with_reducible rfl
        rotate_left
        · simp only [Act.put, List.setIfInBounds_toArray, List.set_cons_zero, List.set_cons_succ, i64_w, i32_w]
          rfl
        refine pure_ (i := 10) (N := some 25) (v := ?_) (a' := ?_) #[true, true, true, false, false, false, false, false, false, true, true, false, false, false, false, false, false, false] rfl rfl (any_of rfl (by kernel_rfl)) (fun _ _ _ h => h) (Or.inl ⟨by rfl, ?_⟩) ?_ ?_
        rotate_left
        · intro w'
          go_simp
          with_reducible rfl
        rotate_left
        · simp only [Act.put, List.setIfInBounds_toArray, List.set_cons_zero, List.set_cons_succ, i64_w, i32_w]
          rfl
        refine pure_ (i := 3) (N := some 18) (v := ?_) (a' := ?_) #[true, true, true, true, false, false, false, false, false, true, true, false, false, false, false, false, false, false] rfl rfl (any_of rfl (by kernel_rfl)) (fun _ _ _ h => h) (Or.inl ⟨by rfl, ?_⟩) ?_ ?_
        rotate_left
        · intro w'
          go_simp
          with_reducible rfl
        rotate_left
        · simp only [Act.put, List.setIfInBounds_toArray, List.set_cons_zero, List.set_cons_succ, i64_w, i32_w]
          rfl
        refine pure_ (i := 4) (N := some 19) (v := ?_) (a' := ?_) #[true, true, true, true, true, false, false, false, false, true, true, false, false, false, false, false, false, false] rfl rfl (any_of rfl (by kernel_rfl)) (fun _ _ _ h => h) (Or.inl ⟨by rfl, ?_⟩) ?_ ?_
        rotate_left
        · intro w'
          go_simp
          with_reducible rfl
        rotate_left
        · simp only [Act.put, List.setIfInBounds_toArray, List.set_cons_zero, List.set_cons_succ, i64_w, i32_w]
          rfl
        refine pure_ (i := 11) (N := some 26) (v := ?_) (a' := ?_) #[true, true, true, true, true, false, false, false, false, true, true, true, false, false, false, false, false, false] rfl rfl (any_of rfl (by kernel_rfl)) (fun _ _ _ h => h) (Or.inl ⟨by rfl, ?_⟩) ?_ ?_
        rotate_left
        · intro w'
          go_simp
          with_reducible rfl
        rotate_left
        · simp only [Act.put, List.setIfInBounds_toArray, List.set_cons_zero, List.set_cons_succ, i64_w, i32_w]
          rfl
        refine pure_ (i := 12) (N := some 27) (v := ?_) (a' := ?_) #[true, true, true, true, true, false, false, false, false, true, true, true, true, false, false, false, false, false] rfl rfl (any_of rfl (by kernel_rfl)) (fun _ _ _ h => h) (Or.inl ⟨by rfl, ?_⟩) ?_ ?_
        rotate_left
        · intro w'
          go_simp
          with_reducible rfl
        rotate_left
        · simp only [Act.put, List.setIfInBounds_toArray, List.set_cons_zero, List.set_cons_succ, i64_w, i32_w]
          rfl
        refine take_ (i := 5) (N := some 20) (v := ?_) (a' := ?_) #[true, true, true, true, true, true, false, false, false, true, true, true, true, false, false, false, false, false] rfl rfl (take_of rfl (by kernel_rfl)) (fun _ _ _ h => h) (Or.inl ⟨by rfl, ?_⟩) hHeld ?_ ?_
        rotate_left
        · rintro w' ⟨s0, s1⟩
          go_simp
          with_reducible rfl
        rotate_left
        · simp only [Act.put, List.setIfInBounds_toArray, List.set_cons_zero, List.set_cons_succ, i64_w, i32_w]
          rfl
        refine take_ (i := 13) (N := some 28) (v := ?_) (a' := ?_) #[true, true, true, true, true, true, false, false, false, true, true, true, true, true, false, false, false, false] rfl rfl (take_of rfl (by kernel_rfl)) (fun _ _ _ h => h) (Or.inl ⟨by rfl, ?_⟩) hHeld ?_ ?_
        rotate_left
        · rintro w' ⟨s0, s1⟩
          go_simp
          with_reducible rfl
        rotate_left
        · simp only [Act.put, List.setIfInBounds_toArray, List.set_cons_zero, List.set_cons_succ, i64_w, i32_w]
          rfl
        refine pure_ (i := 6) (N := some 21) (v := ?_) (a' := ?_) #[true, true, true, true, true, true, true, false, false, true, true, true, true, true, false, false, false, false] rfl rfl (any_of rfl (by kernel_rfl)) (fun _ _ _ h => h) (Or.inl ⟨by rfl, ?_⟩) ?_ ?_
        rotate_left
        · intro w'
          go_simp
          with_reducible rfl
        rotate_left
        · simp only [Act.put, List.setIfInBounds_toArray, List.set_cons_zero, List.set_cons_succ, i64_w, i32_w]
          rfl
        refine pure_ (i := 7) (N := some 22) (v := ?_) (a' := ?_) #[true, true, true, true, true, true, true, true, false, true, true, true, true, true, false, false, false, false] rfl rfl (any_of rfl (by kernel_rfl)) (fun _ _ _ h => h) (Or.inl ⟨by rfl, ?_⟩) ?_ ?_
        rotate_left
        · intro w'
          go_simp
          with_reducible rfl
        rotate_left
        · simp only [Act.put, List.setIfInBounds_toArray, List.set_cons_zero, List.set_cons_succ, i64_w, i32_w]
          rfl
        refine one_ (i := 8) (N := some 23) #[true, true, true, true, true, true, true, true, true, true, true, true, true, true, false, false, false, false] rfl rfl (one_of rfl (by kernel_rfl)) (by decide) (fun K hK => ?_)
        refine goes_ Tryd.func22 (by kernel_rfl) rfl #[] (by rfl) rfl rfl (by first | rfl | (simp; done)) ?_
        refine (PCo.deckleref04_Names.calls _ _ rfl).mono ?_
        rintro e w2 ⟨v2, rfl, hv, hb⟩
        refine ⟨_, rfl, ?_⟩
        obtain ⟨g3, cap3, rfl, -, -, -⟩ := Kd.R_form hv (by decide)
        have hC3 : Kd.C Kd.string w2 (some ⟨g3, 0, none⟩) 6 NAMES := (Kd.R_reads' hv).2.2
        simp only [List.length_cons, List.length_nil]
        refine hK.out _ _ ⟨cell_keep f1.1 hb, cell_keep f1.2 hb⟩ (fun hHeld => ?_)
        clear hK K
        refine norm_ (a' := ?_) ?_ ?_
        rotate_left
        · show Act.put _ (some 23) _ = _
          simp only [Act.put, List.setIfInBounds_toArray, List.set_cons_zero, List.set_cons_succ, i64_w, i32_w]
          rfl
        replace HB := Aside0.mk (below_step HB.out hb)
        obtain ⟨z3, hz3, r3⟩ := (Kd.reads_of_C (d := ByteArray.empty) hC3).2.2 (by omega)
        obtain rfl : (⟨g3, 0, none⟩ : Addr) = z3 := Option.some.inj hz3
        have hk3 : w2.cell? ⟨g3, kn, none⟩ = some (.string (kname (kn : Int))) := by
          have := r3 kn (by have := HC.out; omega)
          rw [add_plain] at this
          unfold kname
          rw [Int.toNat_natCast]; exact this
        have f2 : w2.cell? (ad.add (j * 2)) = some (.string s) ∧ w2.cell? ⟨(ad.add (j * 2)).block, (ad.add (j * 2)).off + 1, none⟩ = some (.int .i64 (kn : Int)) := ⟨cell_keep f1.1 hb, cell_keep f1.2 hb⟩
        clear hv r3 hz3 hC3
        refine pure_ (i := 14) (N := some 29) (v := ?_) (a' := ?_) #[true, true, true, true, true, true, true, true, true, true, true, true, true, true, true, false, false, false] rfl rfl (any_of rfl (by kernel_rfl)) (fun _ _ _ h => h) (Or.inl ⟨by rfl, ?_⟩) ?_ ?_
        rotate_left
        · intro w'
          go_simp
          with_reducible rfl
        rotate_left
        · simp only [Act.put, List.setIfInBounds_toArray, List.set_cons_zero, List.set_cons_succ, i64_w, i32_w]
          rfl
        refine one_ (i := 15) (N := some 30) #[true, true, true, true, true, true, true, true, true, true, true, true, true, true, true, true, false, false] rfl rfl (one_of rfl (by kernel_rfl)) (by decide) (fun K hK => ?_)
        refine value_ (v := .string (kname (kn : Int))) (w1 := w2) (by rfl) rfl (by go_simp) ?_
        refine hK.out _ _ f2 (fun hHeld => ?_)
        clear hK K
        refine norm_ (a' := ?_) ?_ ?_
        rotate_left
        · show Act.put _ (some 30) _ = _
          simp only [Act.put, List.setIfInBounds_toArray, List.set_cons_zero, List.set_cons_succ, i64_w, i32_w]
          rfl
        refine pure_ (i := 16) (N := some 31) (v := ?_) (a' := ?_) #[true, true, true, true, true, true, true, true, true, true, true, true, true, true, true, true, true, false] rfl rfl (any_of rfl (by kernel_rfl)) (fun _ _ _ h => h) (Or.inl ⟨by rfl, ?_⟩) ?_ ?_
        rotate_left
        · intro w'
          go_simp
          with_reducible rfl
        rotate_left
        · simp only [Act.put, List.setIfInBounds_toArray, List.set_cons_zero, List.set_cons_succ, i64_w, i32_w]
          rfl
        refine pure_ (i := 17) (N := some 3) (v := ?_) (a' := ?_) #[true, true, true, true, true, true, true, true, true, true, true, true, true, true, true, true, true, true] rfl rfl (any_of rfl (by kernel_rfl)) (fun _ _ _ h => h) (Or.inl ⟨by rfl, ?_⟩) ?_ ?_
        rotate_left
        · intro w'
          go_simp
          with_reducible rfl
        rotate_left
        · simp only [Act.put, List.setIfInBounds_toArray, List.set_cons_zero, List.set_cons_succ, i64_w, i32_w]
          rfl
        refine done_ (done_of rfl (by kernel_rfl)) ?_
        have hmax := HMX.out
        clear a1 a2 a3 hk3 hHeld p1 p2 p3 p4 p5
        go_wp2_with fail
        go_roundw
        case rel => exact ⟨j + 1, _, HLT.out, by go_num, rfl, ⟨by
          refine ba_eq _ _ ?_
          rw [HSN.out, ByteArray.data_append, ByteArray.data_append, ByteArray.data_append, Array.toList_append, Array.toList_append, Array.toList_append, HT2.out, List.append_assoc, List.append_assoc]
          first | done | rfl⟩, ⟨HB.out⟩⟩
        case measure => have := HLT.out; simp [intOf]; omega
    · have u1 : decide ((j : Int) < (n : Int)) = false := decide_eq_false (by omega)
      have u2 : decide (j < n) = false := decide_eq_false hlt
      have hfin : T = txt l := by rw [HT.out, List.take_of_length_le (by have := HN.out; omega)]
      subst hfin
      clear hj hlt HT
      go_wp2
      go_ret
      exact ⟨rfl, HB.out⟩
theorem join_txL (l : List Col) : Lib.join ((l.map colS).map (·.data.toList)) (⟨#[44]⟩ : ByteArray).data.toList = txL l := by
  unfold txL
  rw [List.map_map, show ((·.data.toList) ∘ colS) = colTx from funext colS_list]
theorem txt_join (l : List Col) : (⟨(Lib.join ((l.map colS).map (·.data.toList)) (⟨#[44]⟩ : ByteArray).data.toList).toArray⟩ : ByteArray) = txt l := by
  rw [join_txL]; rfl
set_option maxHeartbeats 16000000 in
theorem stext_calls {A : Option Addr} {c : Nat} {l : List Col} (w : World) (hN : NamesW w) (hr : Kd.C k54 w A l.length l) (hc : l.length ≤ c) (hs : ∀ i, (rd_T54 l i).f0.size ≤ 9223372036854775807) :
    Calls Tryd.prog 31 #[.slice A l.length c] w fun e w' => e = .returned (.tuple #[.string (stxt l), .int .i64 (sck l)]) ∧ Below w.heap.size w w' := by
  have HCK := Aside0.mk (scheck_calls w hN hr hc hs)
  have HR := Aside0.mk hr
  have HNW := Aside0.mk hN
  unfold stxt
  obtain ⟨k, hk⟩ : ∃ k, sck l = k := ⟨_, rfl⟩
  rw [hk] at HCK ⊢
  by_cases h0 : k ≠ 0
  · have t1 : (k != 0) = true := bne_iff_ne.mpr h0
    rw [if_neg h0]
    clear hN hr hc hs hk h0 HR
    go_enter Tryd.func31, Tryd.ntmps31
    go_wp2_with fail
    refine HCK.out.mono ?_
    rintro e w1 ⟨rfl, hb⟩
    have HB := Aside0.mk hb
    clear hb HCK
    go_wp2_with fail
    go_ret2
    exact ⟨rfl, HB.out⟩
  have hk0 : k = 0 := Decidable.not_not.1 h0
  subst hk0
  rw [if_pos rfl]
  obtain ⟨⟨hn0, hn8⟩, hall⟩ := sck_small hk
  have HALL := Aside0.mk hall
  have HN8 := Aside0.mk hn8
  have HN0 := Aside0.mk hn0
  obtain ⟨n, hn⟩ : ∃ n, l.length = n := ⟨_, rfl⟩
  have HN := Aside0.mk hn
  rw [hn] at HCK ⊢
  clear hN hr hc hs hk h0 hn hn0 hn8 hall
  go_enter Tryd.func31, Tryd.ntmps31
  go_wp2_with fail
  refine HCK.out.mono ?_
  rintro e w1 ⟨rfl, hb⟩
  have HB := Aside0.mk hb
  clear hb HCK
  go_wp2_with fail
  go_loopw [5, 7, 15] (fun v u i wr => ∃ j : Nat, j ≤ n ∧ i = .int .i64 (j : Int) ∧ Aside0 (Kd.R Kd.string 9 wr w.heap.size (fun _ => True) v ((l.take j).map colS)) ∧ Aside0 (Below w.heap.size w wr)) (fun _ _ i _ => n - (intOf i).toNat)
  case atStart => exact ⟨0, by omega, rfl, ⟨by rw [List.take_zero]; exact Kd.R_nil _ _ _ _ _⟩, ⟨HB.out⟩⟩
  case round =>
    clear HB
    obtain ⟨j, hj, rfl, HO, HB⟩ := hrel
    by_cases hlt : j < n
    · have u1 : decide ((j : Int) < (n : Int)) = true := decide_eq_true (by omega)
      have u2 : decide (j < n) = true := decide_eq_true hlt
      have HLT := Aside0.mk hlt
      obtain ⟨ad, e, h0, h1⟩ := at_T54 (Kd.C_below HR.out HB.out) (j : Int) (by omega) (by have := HN.out; omega)
      cases e
      rw [Int.toNat_natCast] at h0 h1
      have p1 : (0 ≤ (j : Int)) = True := eq_true (by omega)
      have p2 : ((j : Int) < (n : Int)) = True := eq_true (by omega)
      have HMX := Aside0.mk (show (j : Int) + 1 ≤ 9223372036854775807 by have := HN8.out; have := HN.out; omega)
      have HTX := Aside0.mk (show (l.take (j + 1)).map colS = (l.take j).map colS ++ [colS (rd_T54 l (j : Int))] from by rw [take_snoc (by have := HN.out; omega), List.map_append]; rfl)
      have HC := Aside0.mk (HALL.out _ (rd_mem (l := l) (j := j) (by have := HN.out; omega)))
      have HPL := Aside0.mk (show ((l.take j).map colS).length ≤ 8 from by rw [List.length_map, List.length_take]; have := HN8.out; have := HN.out; omega)
      obtain ⟨C, hC⟩ : ∃ C, rd_T54 l (j : Int) = C := ⟨_, rfl⟩
      rw [hC] at h0 h1 HTX HC
      obtain ⟨s, kd⟩ := C
      simp only at h0 h1 HC
      obtain ⟨kn, rfl⟩ : ∃ kn : Nat, kd = (kn : Int) := ⟨kd.toNat, by have := HC.out; omega⟩
      obtain ⟨A5, c5, rfl⟩ := Kd.R_slice HO.out
      obtain ⟨pre, hpre⟩ : ∃ pre, (l.take j).map colS = pre := ⟨_, rfl⟩
      rw [hpre] at HO HPL HTX ⊢
      clear hj hlt hC hpre
      go_wp2_with fail
      clear u1 u2 p1 p2
      have hbA := below_drew1 (below_alloc (Below.refl wr.heap.size wr) (.cells #[.string s, .int .i64 (kn : Int)] 54))
      have BX := Aside0.mk (show (wr.alloc (.cells #[.string s, .int .i64 (kn : Int)] 54)).drew.heap[wr.heap.size]? = some (.cells #[.string s, .int .i64 (kn : Int)] 54 (0, 0)) from heap_alloc_new wr _)
      replace HO := Aside0.mk (Kd.R_below HO.out hbA)
      replace HB := Aside0.mk (below_step HB.out hbA)
      have p3 : ((kn : Int) < 6) = True := eq_true (by have := HC.out; omega)
      have p4 : (kn < 6) = True := eq_true (by have := HC.out; omega)
      have p5 : (0 ≤ (kn : Int)) = True := eq_true (by omega)
      have a2 := str_add s ⟨#[58]⟩ (by have := HC.out; have e : (⟨#[58]⟩ : ByteArray).size = 1 := rfl; omega)
      have a3 := str_add (s ++ ⟨#[58]⟩) (kname (kn : Int)) (by rw [ByteArray.size_append]; have := HC.out; have := kname_len (kn : Int); have e : (⟨#[58]⟩ : ByteArray).size = 1 := rfl; omega)
      clear h0 h1 hbA
      refine start_ (n := 13) (S := fun w' => w'.cell? ⟨wr.heap.size, 0, none⟩ = some (.string s) ∧ w'.cell? ⟨wr.heap.size, 1, none⟩ = some (.int .i64 (kn : Int))) (ds := []) #[false, false, false, false, false, false, false, false, false, false, false, false, false] (by kernel_rfl) rfl rfl ⟨(blk_cell BX.out 0).trans rfl, (blk_cell BX.out 1).trans rfl⟩ (fun hHeld => ?_)
      generalize (wr.alloc (.cells #[.string s, .int .i64 (kn : Int)] 54)).drew = W at *
      refine pure_ (i := 0) (N := some 19) (v := ?_) (a' := ?_) #[true, false, false, false, false, false, false, false, false, false, false, false, false] rfl rfl (any_of rfl (by kernel_rfl)) (fun _ _ _ h => h) (Or.inl ⟨by rfl, ?_⟩) ?_ ?_
      rotate_left
      · intro w'
        go_simp
        with_reducible rfl
      rotate_left
      · simp only [Act.put, List.setIfInBounds_toArray, List.set_cons_zero, List.set_cons_succ, i64_w, i32_w]
        rfl
      refine pure_ (i := 1) (N := some 20) (v := ?_) (a' := ?_) #[true, true, false, false, false, false, false, false, false, false, false, false, false] rfl rfl (any_of rfl (by kernel_rfl)) (fun _ _ _ h => h) (Or.inl ⟨by rfl, ?_⟩) ?_ ?_
      rotate_left
      · intro w'
        go_simp
        with_reducible rfl
      rotate_left
      · simp only [Act.put, List.setIfInBounds_toArray, List.set_cons_zero, List.set_cons_succ, i64_w, i32_w]
        rfl
      refine pure_ (i := 5) (N := some 24) (v := ?_) (a' := ?_) #[true, true, false, false, false, true, false, false, false, false, false, false, false] rfl rfl (any_of rfl (by kernel_rfl)) (fun _ _ _ h => h) (Or.inl ⟨by rfl, ?_⟩) ?_ ?_
      rotate_left
      · intro w'
        go_simp
        with_reducible rfl
      rotate_left
      · simp only [Act.put, List.setIfInBounds_toArray, List.set_cons_zero, List.set_cons_succ, i64_w, i32_w]
        rfl
      refine take_ (i := 2) (N := some 21) (v := ?_) (a' := ?_) #[true, true, true, false, false, true, false, false, false, false, false, false, false] rfl rfl (take_of rfl (by kernel_rfl)) (fun _ _ _ h => h) (Or.inl ⟨by rfl, ?_⟩) hHeld ?_ ?_
      rotate_left
      · rintro w' ⟨s0, s1⟩
        go_simp
        with_reducible rfl
      rotate_left
      · simp only [Act.put, List.setIfInBounds_toArray, List.set_cons_zero, List.set_cons_succ, i64_w, i32_w]
        rfl
      refine take_ (i := 6) (N := some 25) (v := ?_) (a' := ?_) #[true, true, true, false, false, true, true, false, false, false, false, false, false] rfl rfl (take_of rfl (by kernel_rfl)) (fun _ _ _ h => h) (Or.inl ⟨by rfl, ?_⟩) hHeld ?_ ?_
      rotate_left
      · rintro w' ⟨s0, s1⟩
        go_simp
        with_reducible rfl
      rotate_left
      · simp only [Act.put, List.setIfInBounds_toArray, List.set_cons_zero, List.set_cons_succ, i64_w, i32_w]
        rfl
      refine pure_ (i := 3) (N := some 22) (v := ?_) (a' := ?_) #[true, true, true, true, false, true, true, false, false, false, false, false, false] rfl rfl (any_of rfl (by kernel_rfl)) (fun _ _ _ h => h) (Or.inl ⟨by rfl, ?_⟩) ?_ ?_
      rotate_left
      · intro w'
        go_simp
        with_reducible rfl
      rotate_left
      · simp only [Act.put, List.setIfInBounds_toArray, List.set_cons_zero, List.set_cons_succ, i64_w, i32_w]
        rfl
      refine one_ (i := 4) (N := some 23) #[true, true, true, true, true, true, true, false, false, false, false, false, false] rfl rfl (one_of rfl (by kernel_rfl)) (by decide) (fun K hK => ?_)
      refine goes_ Tryd.func21 (by kernel_rfl) rfl #[] (by rfl) rfl rfl (by first | rfl | (simp; done)) ?_
      refine (names_calls W (HNW.out.below HB.out)).mono ?_
      rintro e w2 ⟨v2, rfl, hv, hb⟩
      refine ⟨_, rfl, ?_⟩
      obtain ⟨g3, cap3, rfl, -, -, -⟩ := Kd.R_form hv (by decide)
      have hC3 : Kd.C Kd.string w2 (some ⟨g3, 0, none⟩) 6 NAMES := (Kd.R_reads' hv).2.2
      rw [show NAMES.length = 6 from rfl]
      replace BX := Aside0.mk (blk_below BX.out hb)
      replace HO := Aside0.mk (Kd.R_below HO.out hb)
      refine hK.out _ _ ⟨(blk_cell BX.out 0).trans rfl, (blk_cell BX.out 1).trans rfl⟩ (fun hHeld => ?_)
      clear hK K
      refine norm_ (a' := ?_) ?_ ?_
      rotate_left
      · show Act.put _ (some 23) _ = _
        simp only [Act.put, List.setIfInBounds_toArray, List.set_cons_zero, List.set_cons_succ, i64_w, i32_w]
        rfl
      replace HB := Aside0.mk (below_step HB.out hb)
      obtain ⟨z3, hz3, r3⟩ := (Kd.reads_of_C (d := ByteArray.empty) hC3).2.2 (by omega)
      obtain rfl : (⟨g3, 0, none⟩ : Addr) = z3 := Option.some.inj hz3
      have hk3 : w2.cell? ⟨g3, kn, none⟩ = some (.string (kname (kn : Int))) := by
        have := r3 kn (by have := HC.out; omega)
        rw [add_plain] at this
        unfold kname
        rw [Int.toNat_natCast]; exact this
      clear hv r3 hz3 hC3 hb
      refine pure_ (i := 7) (N := some 26) (v := ?_) (a' := ?_) #[true, true, true, true, true, true, true, true, false, false, false, false, false] rfl rfl (any_of rfl (by kernel_rfl)) (fun _ _ _ h => h) (Or.inl ⟨by rfl, ?_⟩) ?_ ?_
      rotate_left
      · intro w'
        go_simp
        with_reducible rfl
      rotate_left
      · simp only [Act.put, List.setIfInBounds_toArray, List.set_cons_zero, List.set_cons_succ, i64_w, i32_w]
        rfl
      refine one_ (i := 8) (N := some 27) #[true, true, true, true, true, true, true, true, true, false, false, false, false] rfl rfl (one_of rfl (by kernel_rfl)) (by decide) (fun K hK => ?_)
      refine value_ (v := .string (kname (kn : Int))) (w1 := w2) (by rfl) rfl (by go_simp) ?_
      refine hK.out _ _ ⟨(blk_cell BX.out 0).trans rfl, (blk_cell BX.out 1).trans rfl⟩ (fun hHeld => ?_)
      clear hK K
      refine norm_ (a' := ?_) ?_ ?_
      rotate_left
      · show Act.put _ (some 27) _ = _
        simp only [Act.put, List.setIfInBounds_toArray, List.set_cons_zero, List.set_cons_succ, i64_w, i32_w]
        rfl
      refine pure_ (i := 9) (N := some 28) (v := ?_) (a' := ?_) #[true, true, true, true, true, true, true, true, true, true, false, false, false] rfl rfl (any_of rfl (by kernel_rfl)) (fun _ _ _ h => h) (Or.inl ⟨by rfl, ?_⟩) ?_ ?_
      rotate_left
      · intro w'
        go_simp
        with_reducible rfl
      rotate_left
      · simp only [Act.put, List.setIfInBounds_toArray, List.set_cons_zero, List.set_cons_succ, i64_w, i32_w]
        rfl
      have hbA := below_alloc (Below.refl w2.heap.size w2) (.cells #[.string (s ++ ⟨#[58]⟩ ++ kname (kn : Int))] 9)
      have H9 := Aside0.mk (heap_alloc_new w2 (.cells #[.string (s ++ ⟨#[58]⟩ ++ kname (kn : Int))] 9))
      refine one_ (i := 10) (N := some 29) #[true, true, true, true, true, true, true, true, true, true, true, false, false] rfl rfl (one_of rfl (by kernel_rfl)) (by decide) (fun K hK => ?_)
      refine value_ (v := .slice (some ⟨w2.heap.size, 0, none⟩) 1 1) (w1 := w2.alloc (.cells #[.string (s ++ ⟨#[58]⟩ ++ kname (kn : Int))] 9)) (by rfl) rfl (by go_simp) ?_
      replace BX := Aside0.mk (blk_below BX.out hbA)
      replace HO := Aside0.mk (Kd.R_below HO.out hbA)
      replace HB := Aside0.mk (below_step HB.out hbA)
      generalize w2.alloc (.cells #[.string (s ++ ⟨#[58]⟩ ++ kname (kn : Int))] 9) = W3 at *
      refine hK.out _ _ ⟨(blk_cell BX.out 0).trans rfl, (blk_cell BX.out 1).trans rfl⟩ (fun hHeld => ?_)
      clear hK K
      refine norm_ (a' := ?_) ?_ ?_
      rotate_left
      · show Act.put _ (some 29) _ = _
        simp only [Act.put, List.setIfInBounds_toArray, List.set_cons_zero, List.set_cons_succ, i64_w, i32_w]
        rfl
      refine one_ (i := 11) (N := some 30) #[true, true, true, true, true, true, true, true, true, true, true, true, false] rfl rfl (one_of rfl (by kernel_rfl)) (by decide) (fun K hK => ?_)
      refine Kd.R_append_rows_step Kd.string (w0 := w) w.heap.size (by rfl) (.tmp 19) (.tmp 29) 43 9 (.string ⟨#[]⟩) 16 rfl Tryd.underlying43 infoS rfl (by decide) (by omega) _ pre [s ++ ⟨#[58]⟩ ++ kname (kn : Int)] (some ⟨w2.heap.size, 0, none⟩) 1 1 (fun _ => True) (fun _ => False) rfl rfl HO.out (lit1s H9.out) (fun _ _ h => h) (fun _ h => h.elim) (fun _ _ => trivial) HB.out HB.out.size (by have := HPL.out; first | omega | (simp; omega)) ?_
      intro v9 U9 ho hb hg hat
      replace BX := Aside0.mk (blk_grown BX.out hg (Kd.R_ne HO.out BX.out (by decide)))
      refine hK.out _ _ ⟨(blk_cell BX.out 0).trans rfl, (blk_cell BX.out 1).trans rfl⟩ (fun _ => ?_)
      clear hK K
      refine norm_ (a' := ?_) ?_ ?_
      rotate_left
      · show Act.put _ (some 30) _ = _
        simp only [Act.put, List.setIfInBounds_toArray, List.set_cons_zero, List.set_cons_succ, i64_w, i32_w]
        rfl
      refine pure_ (i := 12) (N := some 5) (v := ?_) (a' := ?_) #[true, true, true, true, true, true, true, true, true, true, true, true, true] rfl rfl (any_of rfl (by kernel_rfl)) (fun _ _ _ h => h) (Or.inl ⟨by rfl, ?_⟩) ?_ ?_
      rotate_left
      · intro w'
        go_simp
        with_reducible rfl
      rotate_left
      · simp only [Act.put, List.setIfInBounds_toArray, List.set_cons_zero, List.set_cons_succ, i64_w, i32_w]
        rfl
      refine done_ (done_of rfl (by kernel_rfl)) ?_
      have HO3 := Aside0.mk ho
      have HB3 := Aside0.mk hb
      have hmax := HMX.out
      clear ho hb hg hat hHeld a2 a3 p3 p4 p5 hk3 hbA
      go_wp2_with fail
      go_roundw
      case rel => exact ⟨j + 1, HLT.out, by go_num, ⟨by rw [HTX.out]; exact HO3.out⟩, ⟨HB3.out⟩⟩
      case measure => have := HLT.out; simp [intOf]; omega
    · have u1 : decide ((j : Int) < (n : Int)) = false := decide_eq_false (by omega)
      have u2 : decide (j < n) = false := decide_eq_false hlt
      have hfin : (l.take j).map colS = l.map colS := by rw [List.take_of_length_le (by have := HN.out; omega)]
      rw [hfin] at HO
      have hln : (l.map colS).length = n := by rw [List.length_map]; exact HN.out
      obtain ⟨g3, cap3, rfl, -, -, -⟩ := Kd.R_form HO.out (by rw [hln]; have := HN0.out; have := HN.out; omega)
      obtain ⟨hcl, hcp, hC⟩ := Kd.R_reads' HO.out
      obtain ⟨z3, hz3, r3⟩ := (Kd.reads_of_C (d := ByteArray.empty) hC).2.2 (by rw [hln]; have := HN0.out; have := HN.out; omega)
      obtain rfl : (⟨g3, 0, none⟩ : Addr) = z3 := Option.some.inj hz3
      have hJ := Tryd.strings_Join g3 0 cap3 (l.map colS) ⟨#[44]⟩ wr (fun i x hx => by
        have hi : i < (l.map colS).length := by
          rcases Nat.lt_or_ge i (l.map colS).length with h | h
          · exact h
          · rw [List.getElem?_eq_none h] at hx; cases hx
        have := r3 i hi
        rw [add_plain] at this
        rw [Nat.zero_add, this, List.getD_eq_getElem?_getD, hx]; rfl) (by
        have := r3 0 (by rw [hln]; have := HN0.out; have := HN.out; omega)
        exact cell_lt this) (by rw [hln]; have := HN8.out; have := HN.out; omega) (by first | exact hcp | omega) (by
        rw [join_txL]
        have := txL_len n l HN.out (fun c hc => (HALL.out c hc).1)
        have := HN8.out; have := HN.out; omega)
      rw [txt_join, hln] at hJ
      have HJ := Aside0.mk hJ
      rw [hln]
      clear hj hlt hfin hln hcl hcp hC hz3 r3 hJ HO
      go_wp2_with fail
      refine HJ.out.mono ?_
      rintro e w3 ⟨rfl, hb⟩
      have HB2 := Aside0.mk (below_step HB.out hb)
      clear hb
      go_wp2_with fail
      go_ret2
      exact ⟨rfl, HB2.out⟩
end Go.Proofs.YtnmjelcicbfjdaaDoor.Sc
