import Derived.Lib.SplitLaws
import Derived.Lib.Join
import Derived.Test.YtciolchdihlgfaaDoorScAK
import Derived.Test.YtciolchdihlgfaaDoorScMQ
/-! A text cut at a byte: pieces, and back. -/
namespace Go.Proofs.YtciolchdihlgfaaDoor.Cut
open Go.Lib
set_option linter.unusedVariables false
set_option linter.unusedSimpArgs false
theorem join_two (p q : List UInt8) (r : List (List UInt8)) (c : UInt8) : join (p :: q :: r) [c] = p ++ c :: join (q :: r) [c] := by
  rw [join_cons, join_cons]
  unfold joinTail
  rw [List.map_cons, List.flatten_cons]
  simp
/-- The pieces between a byte. -/
def cutl (c : UInt8) : List UInt8 → List (List UInt8)
  | [] => [[]]
  | b :: l => if b = c then [] :: cutl c l else (b :: (cutl c l).headD []) :: (cutl c l).tail
theorem cutl_ne (c : UInt8) : ∀ l, cutl c l ≠ []
  | [] => by simp [cutl]
  | b :: l => by rw [cutl]; split <;> simp
theorem cutl_form (c : UInt8) (l : List UInt8) : cutl c l = (cutl c l).headD [] :: (cutl c l).tail := by
  cases h : cutl c l with
  | nil => exact absurd h (cutl_ne c l)
  | cons p r => rfl
theorem index_eq (c : UInt8) (l : List UInt8) : index (c :: l) [c] = 0 := by rw [index]; simp [List.isPrefixOf]
theorem index_ne {b c : UInt8} (h : b ≠ c) (l : List UInt8) : index (b :: l) [c] = if index l [c] = -1 then -1 else index l [c] + 1 := by
  have hp : ([c] : List UInt8).isPrefixOf (b :: l) = false := by simp [List.isPrefixOf, Ne.symm h]
  rw [index, hp]
  by_cases e : index l [c] = -1
  · rw [if_pos e]; simp [e]
  · rw [if_neg e]; simp [e]
theorem join_cutl (c : UInt8) : ∀ s, join (cutl c s) [c] = s
  | [] => rfl
  | b :: l => by
    have ih := join_cutl c l
    rw [cutl]
    rw [cutl_form c l] at ih
    split
    · rename_i e
      subst e
      rw [cutl_form b l, join_two, ih]; rfl
    · cases ht : (cutl c l).tail with
      | nil => rw [ht, join_one] at ih; rw [join_one, ih]
      | cons q r => rw [ht, join_two] at ih; rw [join_two, List.cons_append, ih]
theorem cut_cutl (c : UInt8) : ∀ s, Lib.cut s [c] = ((cutl c s).headD [], join (cutl c s).tail [c], decide ((cutl c s).tail ≠ []))
  | [] => rfl
  | b :: l => by
    have ih := cut_cutl c l
    rw [cutl]
    unfold Lib.cut at ih ⊢
    by_cases e : b = c
    · subst e
      rw [index_eq, if_pos (by decide), if_pos rfl]
      show ([], l, true) = ([], join (cutl b l) [b], decide (cutl b l ≠ []))
      rw [join_cutl, decide_eq_true (cutl_ne b l)]
    · rw [if_neg e, index_ne e]
      have hge := index_ge l [c]
      by_cases h : index l [c] = -1
      · rw [if_pos h, if_neg (by decide)]
        rw [h, if_neg (by decide)] at ih
        simp only [Prod.mk.injEq] at ih
        show (b :: l, [], false) = (b :: (cutl c l).headD [], join (cutl c l).tail [c], decide ((cutl c l).tail ≠ []))
        rw [← ih.1, ← ih.2.1, ← ih.2.2]
      · rw [if_neg h, if_pos (by omega)]
        rw [if_pos (by omega)] at ih
        simp only [Prod.mk.injEq] at ih
        show ((b :: l).take (index l [c] + 1).toNat, (b :: l).drop ((index l [c] + 1).toNat + 1), true) = (b :: (cutl c l).headD [], join (cutl c l).tail [c], decide ((cutl c l).tail ≠ []))
        rw [← ih.1, ← ih.2.1, ← ih.2.2, show (index l [c] + 1).toNat = (index l [c]).toNat + 1 by omega]
        rfl
theorem splitK_cutl (c : UInt8) : ∀ s, splitK [c] 0 (count s [c]) s = cutl c s
  | [] => by rw [count_one]; rfl
  | b :: l => by
    have ih := splitK_cutl c l
    rw [cutl]
    by_cases e : b = c
    · subst e
      rw [count_cons_eq, Nat.add_comm, splitK, index_eq, if_neg (by decide), if_pos rfl]
      show [] :: splitK [b] 0 (count l [b]) l = _
      rw [ih]
    · rw [if_neg e, count_cons_ne b c l e]
      have hge := index_ge l [c]
      by_cases h : index l [c] = -1
      · rw [count_miss h] at ih ⊢
        rw [splitK] at ih ⊢
        rw [← ih]; rfl
      · obtain ⟨i, hi⟩ : ∃ i : Nat, index l [c] = i := ⟨(index l [c]).toNat, by omega⟩
        obtain ⟨k, hk⟩ : ∃ k, count l [c] = k + 1 := ⟨_, (count_hit (by simp) hi).trans (Nat.add_comm _ _)⟩
        have he : ¬ (index l [c] == -1) = true := fun z => h (beq_iff_eq.1 z)
        have he2 : ¬ ((if index l [c] = -1 then -1 else index l [c] + 1) == -1) = true := fun z => by rw [if_neg h] at z; have := beq_iff_eq.1 z; omega
        rw [hk, splitK, if_neg he] at ih
        rw [hk, splitK, index_ne e, if_neg he2, if_neg h, hi, show ((i : Int) + 1).toNat = i + 1 by omega]
        rw [hi, Int.toNat_natCast] at ih
        rw [← ih]
        rfl
theorem cutl_none {c : UInt8} : ∀ {p : List UInt8}, c ∉ p → cutl c p = [p]
  | [], _ => rfl
  | b :: l, h => by
    rw [cutl, if_neg (fun e => h (by rw [e]; exact List.mem_cons_self ..)), cutl_none (fun z => h (List.mem_cons_of_mem _ z))]; rfl
theorem cutl_app {c : UInt8} (t : List UInt8) : ∀ {p : List UInt8}, c ∉ p → cutl c (p ++ c :: t) = p :: cutl c t
  | [], _ => by rw [List.nil_append, cutl, if_pos rfl]
  | b :: l, h => by
    rw [List.cons_append, cutl, if_neg (fun e => h (by rw [e]; exact List.mem_cons_self ..)), cutl_app t (fun z => h (List.mem_cons_of_mem _ z))]; rfl
theorem cutl_join (c : UInt8) : ∀ ps : List (List UInt8), ps ≠ [] → (∀ p ∈ ps, c ∉ p) → cutl c (join ps [c]) = ps
  | [], h, _ => absurd rfl h
  | [p], _, h => by rw [join_one, cutl_none (h p (List.mem_cons_self ..))]
  | p :: q :: r, _, h => by
    rw [join_two, cutl_app _ (h p (List.mem_cons_self ..)), cutl_join c (q :: r) (by simp) (fun x hx => h x (List.mem_cons_of_mem _ hx))]
theorem cutl_mem (c : UInt8) : ∀ s, ∀ p ∈ cutl c s, c ∉ p
  | [], p, hp => by rw [cutl] at hp; simp at hp; subst hp; simp
  | b :: l, p, hp => by
    have ih := cutl_mem c l
    rw [cutl] at hp
    split at hp
    · rcases List.mem_cons.1 hp with rfl | hp
      · simp
      · exact ih p hp
    · rename_i e
      rw [cutl_form c l] at ih
      rcases List.mem_cons.1 hp with rfl | hp
      · intro hm
        rcases List.mem_cons.1 hm with h | h
        · exact e h.symm
        · exact ih _ (List.mem_cons_self ..) h
      · exact ih p (List.mem_cons_of_mem _ hp)
theorem splitB_cutl (c : UInt8) (s : ByteArray) : (splitB ⟨#[c]⟩ 0 (countB s ⟨#[c]⟩) s).map (·.data.toList) = cutl c s.data.toList := by
  rw [splitB_data]
  exact splitK_cutl c _
theorem cutl_len (c : UInt8) : ∀ s, (cutl c s).length ≤ s.length + 1
  | [] => Nat.le_refl _
  | b :: l => by
    have ih := cutl_len c l
    rw [cutl]
    split
    · simp only [List.length_cons]; omega
    · rw [cutl_form c l] at ih
      simp only [List.length_cons] at ih ⊢; omega
/-- Behind one more byte. -/
theorem cutl_snoc (c b : UInt8) : ∀ s, cutl c (s ++ [b]) = if b = c then cutl c s ++ [[]] else (cutl c s).dropLast ++ [(cutl c s).getLastD [] ++ [b]]
  | [] => by
    rw [List.nil_append, cutl]
    by_cases h : b = c <;> simp [cutl, h]
  | a :: l => by
    have ih := cutl_snoc c b l
    rw [List.cons_append, cutl, ih]
    by_cases hb : b = c
    · rw [if_pos hb, if_pos hb]
      by_cases ha : a = c
      · rw [if_pos ha, cutl, if_pos ha]; rfl
      · rw [if_neg ha, cutl, if_neg ha, cutl_form c l]; simp
    · rw [if_neg hb, if_neg hb]
      by_cases ha : a = c
      · rw [if_pos ha, cutl, if_pos ha, cutl_form c l]
        cases h : (cutl c l).tail <;> simp [List.getLastD, List.getLast?_cons, h]
      · rw [if_neg ha, cutl, if_neg ha, cutl_form c l]
        cases h : (cutl c l).tail <;> simp [List.getLastD, List.getLast?_cons, h]
end Go.Proofs.YtciolchdihlgfaaDoor.Cut
/-! Schema: texts: what is parsed has that text; what has a text is parsed of it. -/
namespace Go.Proofs.YtciolchdihlgfaaDoor.Sc
open Go.RowKit Go.Proofs.YtciolchdihlgfaaDoorW.PrintWords Go.Proofs.YtciolchdihlgfaaDoorW.PrintLast Go.Proofs.YtciolchdihlgfaaDoorW.PrintMore Go.Proofs.YtciolchdihlgfaaDoor.Wire Go.Proofs.YtciolchdihlgfaaDoor.PSc Go.Proofs.YtciolchdihlgfaaDoor.Co Go.Proofs.YtciolchdihlgfaaDoor.Ce Go.Proofs.YtciolchdihlgfaaDoor.Cut
set_option linter.unusedVariables false
set_option linter.unusedSimpArgs false
set_option maxRecDepth 100000
theorem name_no {s : ByteArray} (h : lts s = true) {b : UInt8} (hb : lt_ b = false) : b ∉ s.data.toList := by
  intro hm
  have := List.all_eq_true.1 h b hm
  rw [hb] at this
  exact Bool.false_ne_true this
theorem kname_no (k : Int) : (44 : UInt8) ∉ (kname k).data.toList ∧ (58 : UInt8) ∉ (kname k).data.toList := by
  unfold kname
  rw [List.getD_eq_getElem?_getD]
  cases e : NAMES[k.toNat]? with
  | none => exact ⟨by simp, by simp⟩
  | some x =>
    have := List.mem_of_getElem? e
    have all : ∀ y ∈ NAMES, (44 : UInt8) ∉ y.data.toList ∧ (58 : UInt8) ∉ y.data.toList := by decide
    exact all x this
theorem idx_name {k : Int} (h : 0 ≤ k ∧ k < 6) : Lib.idxOfS NAMES (kname k) = k := by
  have : k = 0 ∨ k = 1 ∨ k = 2 ∨ k = 3 ∨ k = 4 ∨ k = 5 := by omega
  rcases this with rfl | rfl | rfl | rfl | rfl | rfl <;> decide
theorem idx_form (x : ByteArray) : ∀ (zs : List ByteArray) (i : Nat), (Lib.idxFromS zs x i = -1 ∧ x ∉ zs) ∨ ∃ k, k < zs.length ∧ zs.getD k ByteArray.empty = x ∧ Lib.idxFromS zs x i = ((i + k : Nat) : Int)
  | [], i => .inl ⟨rfl, by simp⟩
  | z :: zs, i => by
    rw [Lib.idxFromS]
    by_cases h : z = x
    · rw [if_pos h]
      exact .inr ⟨0, by simp, h, rfl⟩
    · rw [if_neg h]
      rcases idx_form x zs (i + 1) with ⟨h1, h2⟩ | ⟨k, h1, h2, h3⟩
      · exact .inl ⟨h1, fun hm => by rcases List.mem_cons.1 hm with e | e; exact h e.symm; exact h2 e⟩
      · exact .inr ⟨k + 1, by simpa using h1, h2, by rw [h3]; congr 1; omega⟩
theorem idx_some {x : ByteArray} (h : 0 ≤ Lib.idxOfS NAMES x) : kname (Lib.idxOfS NAMES x) = x := by
  unfold Lib.idxOfS at h ⊢
  rcases idx_form x NAMES 0 with ⟨h1, h2⟩ | ⟨k, h1, h2, h3⟩
  · rw [h1] at h; exact absurd h (by decide)
  · rw [h3]
    unfold kname
    rw [Int.toNat_natCast, Nat.zero_add]
    exact h2
theorem pcol_eq (p : ByteArray) : pcol p = ⟨⟨((cutl 58 p.data.toList).headD []).toArray⟩, Lib.idxOfS NAMES ⟨(Lib.join (cutl 58 p.data.toList).tail [58]).toArray⟩⟩ := by
  unfold pcol
  rw [cut_cutl]
theorem ba_self (s : ByteArray) : (⟨s.data.toList.toArray⟩ : ByteArray) = s := by
  obtain ⟨a⟩ := s; simp
theorem pcol_tx {p : ByteArray} {c : Col} (h : p.data.toList = colTx c) (hl : lts c.f0 = true) (hk : 0 ≤ c.f1 ∧ c.f1 < 6) : pcol p = c := by
  rw [pcol_eq, h]
  unfold colTx
  rw [cutl_app _ (name_no hl (by decide)), cutl_none (kname_no c.f1).2]
  obtain ⟨s, k⟩ := c
  show (⟨⟨s.data.toList.toArray⟩, Lib.idxOfS NAMES ⟨(Lib.join [(kname k).data.toList] [58]).toArray⟩⟩ : Col) = _
  rw [Lib.join_one, ba_self, ba_self, idx_name hk]
theorem tx_pcol {p : ByteArray} (h : 0 ≤ (pcol p).f1) : colTx (pcol p) = p.data.toList := by
  rw [pcol_eq] at h ⊢
  unfold colTx
  dsimp only at h ⊢
  rw [idx_some h]
  have hj := join_cutl 58 p.data.toList
  rw [cutl_form 58 p.data.toList] at hj
  cases ht : (cutl 58 p.data.toList).tail with
  | nil =>
    rw [ht] at h
    exact absurd h (by decide)
  | cons q r =>
    rw [ht, join_two] at hj
    exact hj
theorem pgo_tx : ∀ (r : List Col) (ps : List ByteArray) (acc : List Col), ps.map (·.data.toList) = r.map colTx → (∀ c ∈ r, ok1 c) → sck (acc ++ r) = 0 → pgo ps acc = (acc ++ r, 0)
  | [], ps, acc, h, _, hs => by
    obtain rfl : ps = [] := List.map_eq_nil_iff.1 h
    rw [List.append_nil] at hs ⊢
    rw [pgo, if_pos hs]
  | c :: r, ps, acc, h, ho, hs => by
    cases ps with
    | nil => simp at h
    | cons p ps =>
      simp only [List.map_cons, List.cons.injEq] at h
      have hc := ho c (List.mem_cons_self ..)
      have hp := pcol_tx h.1 hc.2.2.1 hc.2.2.2
      rw [pgo, hp, if_neg (by have := hc.2.2.2.1; omega), pgo_tx r ps (acc ++ [c]) h.2 (fun x hx => ho x (List.mem_cons_of_mem _ hx)) (by rw [List.append_assoc]; exact hs), List.append_assoc]
      rfl
theorem pgo_ok : ∀ (ps : List ByteArray) (acc : List Col), (pgo ps acc).2 = 0 → ∃ r, (pgo ps acc).1 = acc ++ r ∧ r.map colTx = ps.map (·.data.toList) ∧ sck (acc ++ r) = 0
  | [], acc, h => by
    rw [pgo] at h ⊢
    by_cases h0 : sck acc = 0
    · rw [if_pos h0]
      exact ⟨[], by rw [List.append_nil], rfl, by rw [List.append_nil]; exact h0⟩
    · rw [if_neg h0] at h; exact absurd h h0
  | p :: ps, acc, h => by
    rw [pgo] at h ⊢
    by_cases h0 : (pcol p).f1 < 0
    · rw [if_pos h0] at h; exact absurd h (by decide)
    · rw [if_neg h0] at h ⊢
      obtain ⟨r, h1, h2, h3⟩ := pgo_ok ps _ h
      exact ⟨pcol p :: r, by rw [h1, List.append_assoc]; rfl, by rw [List.map_cons, List.map_cons, h2, tx_pcol (by omega)], by rw [List.append_assoc] at h3; exact h3⟩
theorem pgo_no : ∀ (ps : List ByteArray) (acc : List Col), (pgo ps acc).2 ≠ 0 → (pgo ps acc).1 = []
  | [], acc, h => by
    rw [pgo] at h ⊢
    by_cases h0 : sck acc = 0
    · rw [if_pos h0] at h; exact absurd rfl h
    · rw [if_neg h0]
  | p :: ps, acc, h => by
    rw [pgo] at h ⊢
    by_cases h0 : (pcol p).f1 < 0
    · rw [if_pos h0]
    · rw [if_neg h0] at h ⊢
      exact pgo_no ps _ h
theorem colTx_no {c : Col} (h : ok1 c) : (44 : UInt8) ∉ colTx c := by
  unfold colTx
  intro hm
  rcases List.mem_append.1 hm with e | e
  · exact name_no h.2.2.1 (by decide) e
  · rcases List.mem_cons.1 e with e | e
    · exact absurd e (by decide)
    · exact (kname_no c.f1).1 e
theorem prs_txt {s : List Col} (hs : sck s = 0) : prs (txt s) = (s, 0) := by
  obtain ⟨a1, a2, -⟩ := (sck_iff s).1 hs
  refine pgo_tx s _ [] ?_ a2 hs
  refine (splitB_cutl 44 (txt s)).trans ?_
  show cutl 44 (txL s).toArray.toList = _
  rw [List.toList_toArray]
  refine cutl_join 44 _ (fun e => ?_) (fun p hp => ?_)
  · have := List.map_eq_nil_iff.1 e
    rw [this] at a1; simp at a1
  · obtain ⟨c, hc, rfl⟩ := List.mem_map.1 hp
    exact colTx_no (a2 c hc)
theorem txt_prs {t : ByteArray} (h : (prs t).2 = 0) : txt (prs t).1 = t ∧ sck (prs t).1 = 0 := by
  obtain ⟨r, h1, h2, h3⟩ := pgo_ok _ _ h
  have h1' : (prs t).1 = r := h1
  rw [h1']
  refine ⟨?_, h3⟩
  unfold txt txL
  rw [h2, show (parts t).map (·.data.toList) = cutl 44 t.data.toList from splitB_cutl 44 t, join_cutl, ba_self]
theorem prs_no {t : ByteArray} (h : (prs t).2 ≠ 0) : (prs t).1 = [] := pgo_no _ _ h
/-! ### the document's: the kind of pieces -/
def lastIdx (x : ByteArray) : Nat → Int
  | 0 => -1
  | k + 1 => if NAMES.getD k ByteArray.empty = x then (k : Int) else lastIdx x k
theorem last_form (x : ByteArray) : ∀ k, k ≤ 6 → (lastIdx x k = -1 ∧ ∀ j, j < k → NAMES.getD j ByteArray.empty ≠ x) ∨ ∃ j, j < k ∧ NAMES.getD j ByteArray.empty = x ∧ lastIdx x k = (j : Int)
  | 0, _ => .inl ⟨rfl, fun j h => absurd h (Nat.not_lt_zero _)⟩
  | k + 1, hk => by
    rw [lastIdx]
    by_cases h : NAMES.getD k ByteArray.empty = x
    · rw [if_pos h]; exact .inr ⟨k, by omega, h, rfl⟩
    · rw [if_neg h]
      rcases last_form x k (by omega) with ⟨h1, h2⟩ | ⟨j, h1, h2, h3⟩
      · exact .inl ⟨h1, fun j hj => by rcases Nat.lt_succ_iff_lt_or_eq.1 hj with e | e; exact h2 j e; rw [e]; exact h⟩
      · exact .inr ⟨j, by omega, h2, h3⟩
theorem names_inj : ∀ i j : Fin 6, NAMES.getD i.val ByteArray.empty = NAMES.getD j.val ByteArray.empty → i = j := by decide
theorem last_idx (x : ByteArray) : lastIdx x 6 = Lib.idxOfS NAMES x := by
  unfold Lib.idxOfS
  rcases last_form x 6 (Nat.le_refl _) with ⟨h1, h2⟩ | ⟨j, h1, h2, h3⟩
  · rcases idx_form x NAMES 0 with ⟨g1, -⟩ | ⟨k, g1, g2, g3⟩
    · rw [h1, g1]
    · exact absurd g2 (h2 k g1)
  · rcases idx_form x NAMES 0 with ⟨-, g2⟩ | ⟨k, g1, g2, g3⟩
    · refine absurd ?_ g2
      rw [← h2, List.getD_eq_getElem?_getD, List.getElem?_eq_getElem (show j < NAMES.length from h1)]
      exact List.getElem_mem _
    · have := names_inj ⟨j, h1⟩ ⟨k, g1⟩ (h2.trans g2.symm)
      rw [h3, g3, Nat.zero_add, Fin.mk.inj this]
/-- The kind of a part's pieces. -/
def kindW (ws : List ByteArray) : Int := if ws.length = 2 then Lib.idxOfS NAMES (ws.getD 1 ByteArray.empty) else -1
theorem kind_pcol {p : ByteArray} {ws : List ByteArray} (h : ws.map (·.data.toList) = cutl 58 p.data.toList) : pcol p = ⟨ws.getD 0 ByteArray.empty, kindW ws⟩ := by
  rw [pcol_eq, ← h]
  unfold kindW
  match ws, h with
  | [], h => exact absurd h.symm (cutl_ne 58 _)
  | [a], h =>
    show (⟨⟨a.data.toList.toArray⟩, Lib.idxOfS NAMES ⟨(Lib.join [] [58]).toArray⟩⟩ : Col) = ⟨a, -1⟩
    rw [ba_self]; rfl
  | [a, b], h =>
    show (⟨⟨a.data.toList.toArray⟩, Lib.idxOfS NAMES ⟨(Lib.join [b.data.toList] [58]).toArray⟩⟩ : Col) = ⟨a, Lib.idxOfS NAMES b⟩
    rw [ba_self, Lib.join_one, ba_self]
  | a :: b :: c :: r, h =>
    show (⟨⟨a.data.toList.toArray⟩, Lib.idxOfS NAMES ⟨(Lib.join (b.data.toList :: c.data.toList :: r.map (·.data.toList)) [58]).toArray⟩⟩ : Col) = ⟨a, if (r.length + 3) = 2 then _ else -1⟩
    rw [ba_self, if_neg (by omega)]
    congr 1
    have hr := idx_rng ⟨(Lib.join (b.data.toList :: c.data.toList :: r.map (·.data.toList)) [58]).toArray⟩
    by_cases h0 : 0 ≤ Lib.idxOfS NAMES ⟨(Lib.join (b.data.toList :: c.data.toList :: r.map (·.data.toList)) [58]).toArray⟩
    · have hn := idx_some h0
      have h2 := (kname_no (Lib.idxOfS NAMES ⟨(Lib.join (b.data.toList :: c.data.toList :: r.map (·.data.toList)) [58]).toArray⟩)).2
      rw [hn] at h2
      refine absurd ?_ h2
      show (58 : UInt8) ∈ (Lib.join (b.data.toList :: c.data.toList :: r.map (·.data.toList)) [58]).toArray.toList
      rw [List.toList_toArray, join_two]
      simp
    · omega
end Go.Proofs.YtciolchdihlgfaaDoor.Sc
/-! The document's Cut: a text cut at a byte. -/
namespace Go.Proofs.YtciolchdihlgfaaDoor.Sc
open Go.RowKit Go.Proofs.YtciolchdihlgfaaDoorW.PrintWords Go.Proofs.YtciolchdihlgfaaDoorW.PrintLast Go.Proofs.YtciolchdihlgfaaDoorW.PrintMore Go.Proofs.YtciolchdihlgfaaDoor.Wire Go.Proofs.YtciolchdihlgfaaDoor.Co Go.Proofs.YtciolchdihlgfaaDoor.Ce Go.Proofs.YtciolchdihlgfaaDoor.Cut
set_option linter.unusedVariables false
set_option linter.unusedSimpArgs false
set_option maxRecDepth 100000
theorem cutl_part (c : UInt8) : ∀ s, ∀ p ∈ cutl c s, p.length ≤ s.length
  | [], p, hp => by rw [cutl] at hp; simp at hp; subst hp; exact Nat.le_refl _
  | b :: l, p, hp => by
    have ih := cutl_part c l
    rw [cutl] at hp
    split at hp
    · rcases List.mem_cons.1 hp with rfl | hp
      · exact Nat.zero_le _
      · have := ih p hp; simp only [List.length_cons]; omega
    · rw [cutl_form c l] at ih
      rcases List.mem_cons.1 hp with rfl | hp
      · have := ih _ (List.mem_cons_self ..); simp only [List.length_cons]; omega
      · have := ih p (List.mem_cons_of_mem _ hp); simp only [List.length_cons]; omega
theorem part_max {ps : List ByteArray} {c : UInt8} {l : List UInt8} (h : ps.map (·.data.toList) = cutl c l) : ps ≠ [] ∧ ps.length ≤ l.length + 1 ∧ ∀ p ∈ ps, p.size ≤ l.length := by
  refine ⟨fun e => ?_, ?_, fun p hp => ?_⟩
  · rw [e] at h; exact absurd h.symm (cutl_ne c l)
  · have := cutl_len c l; rw [← h, List.length_map] at this; exact this
  · have := cutl_part c l p.data.toList (by rw [← h]; exact List.mem_map.2 ⟨p, hp, rfl⟩)
    rw [data_length] at this; exact this
/-- One byte on: no new piece. -/
theorem part_grow {ps : List ByteArray} {c b : UInt8} {l : List UInt8} (h : ps.map (·.data.toList) = cutl c l) (hb : b ≠ c) {x t : ByteArray} (hx : ps[ps.length - 1]? = some x) (ht : t.data.toList = [b]) :
    (ps.set (ps.length - 1) (x ++ t)).map (·.data.toList) = cutl c (l ++ [b]) := by
  have hne := (part_max h).1
  rw [cutl_snoc, if_neg hb, ← h]
  obtain ⟨qs, q, rfl⟩ : ∃ qs q, ps = qs ++ [q] := ⟨ps.dropLast, ps.getLast hne, (List.dropLast_concat_getLast hne).symm⟩
  have e : (qs ++ [q]).length - 1 = qs.length := by simp
  rw [e] at hx ⊢
  have hq : x = q := by simpa using hx.symm
  subst hq
  rw [List.set_append_right _ _ (Nat.le_refl _)]
  have gl : ∀ (a : List (List UInt8)) (q : List UInt8), (a ++ [q]).getLastD [] = q := fun a q => by rw [List.getLastD_eq_getLast?]; simp
  simp only [List.map_append, List.map_cons, List.map_nil, List.dropLast_concat, gl, List.set_cons_zero, Nat.sub_self, ByteArray.data_append, Array.toList_append, ht]
theorem ext1 (s : ByteArray) {j : Nat} (h : j < s.size) : (s.extract j (j + 1)).data.toList = [s[j]'h] := by
  rw [ByteArray.data_extract, Array.toList_extract]
  have e : s.data.toList.drop j = (s[j]'h) :: s.data.toList.drop (j + 1) := by
    rw [List.drop_eq_getElem_cons (by rw [data_length]; exact h)]
    congr 1
  rw [List.extract_eq_take_drop, e, show j + 1 - j = 1 by omega]
  rfl
set_option maxHeartbeats 32000000 in
theorem rcut_calls (s : ByteArray) (c : UInt8) (k : Int) (hk : (c.toNat : Int) = k) (hs : s.size ≤ 1000000) (w : World) :
    Calls Tryd.prog 31 #[.string s, .int .u8 k] w fun e w' => ∃ v ps, e = .returned v ∧ Kd.R Kd.string 9 w' w.heap.size (fun _ => True) v ps ∧ ps.map (·.data.toList) = cutl c s.data.toList ∧ Below w.heap.size w w' := by
  have HS := Aside0.mk hs
  have HK := Aside0.mk hk
  clear hs hk
  go_enter Tryd.func31, Tryd.ntmps31
  go_wp2_with ((with_reducible refine gate_dst (N := 7) rfl ?_); refine Kd.R_lit Kd.string 9 ?hg (N := 7) ?hd (w0 := w) (base := w.heap.size) (xs := [(⟨#[]⟩ : ByteArray)]) (inner := [.string ⟨#[]⟩]) (ok := fun _ => True) (okp := fun _ => True) ?hr ?hp (fun _ h => h) trivial (Below.refl _ _) (Nat.le_refl _) (by simp) ?_; (case hd => rfl); (case hg => rfl); (case hr => first | (go_simp; done) | (go_simp; rfl)); (case hp => exact Reps.one (show Kd.M Kd.string _ _ _ (⟨#[]⟩ : ByteArray) [.string ⟨#[]⟩] from rfl) (Reps.none _ _)); intro v7 w1 ho hb hg hnew; have HO0 := Aside0.mk ho; have HB0 := Aside0.mk hb; clear ho hb hg hnew)
  go_loopw [5, 6] (fun v i wr => ∃ (j : Nat) (ps : List ByteArray), j ≤ s.size ∧ i = .int .i64 (j : Int) ∧ Aside0 (ps.map (·.data.toList) = cutl c (s.data.toList.take j)) ∧ Aside0 (Kd.R Kd.string 9 wr w.heap.size (fun _ => True) v ps) ∧ Aside0 (Below w.heap.size w wr)) (fun _ i _ => s.size - (intOf i).toNat)
  case atStart => exact ⟨0, [⟨#[]⟩], by omega, rfl, ⟨rfl⟩, ⟨HO0.out⟩, ⟨HB0.out⟩⟩
  case round =>
    clear HO0 HB0
    obtain ⟨j, ps, hj, rfl, HP, HO, HB⟩ := hrel
    obtain ⟨A5, c5, rfl⟩ := Kd.R_slice HO.out
    by_cases hlt : j < s.size
    · have u1 : decide ((j : Int) < (s.size : Int)) = true := decide_eq_true (by omega)
      have u2 : decide (j < s.size) = true := decide_eq_true hlt
      have hmax : (j : Int) + 1 ≤ 9223372036854775807 := by have := HS.out; omega
      have p0 : (0 ≤ (j : Int)) = True := eq_true (by omega)
      have p1 : ((j : Int) < (s.size : Int)) = True := eq_true (by omega)
      obtain ⟨b, hb⟩ : ∃ b, s[j]'hlt = b := ⟨_, rfl⟩
      obtain ⟨x, hx⟩ : ∃ x : Nat, ∀ h : j < s.size, ((s[j]'h).toNat : Int) = (x : Int) := ⟨(s[j]'hlt).toNat, fun h => rfl⟩
      have hbx : b.toNat = x := by have := hx hlt; rw [hb] at this; omega
      have HTK := Aside0.mk (show s.data.toList.take (j + 1) = s.data.toList.take j ++ [b] from by
        rw [List.take_add_one, List.getElem?_eq_getElem (by rw [data_length]; exact hlt), ← hb]; rfl)
      have HEX := Aside0.mk (show (s.extract j (j + 1)).data.toList = [b] from by rw [ext1 s hlt, hb])
      have HPM := Aside0.mk (part_max HP.out)
      have HLJ := Aside0.mk (show (s.data.toList.take j).length = j from by rw [List.length_take, data_length]; omega)
      have HLT := Aside0.mk hlt
      by_cases hc : b = c
      · have e1 : ((x : Int) == k) = true := beq_iff_eq.2 (by rw [← HK.out, ← hc, hbx])
        have HP2 := Aside0.mk (show (ps ++ [(⟨#[]⟩ : ByteArray)]).map (·.data.toList) = cutl c (s.data.toList.take (j + 1)) from by rw [HTK.out, cutl_snoc, if_pos hc, List.map_append, HP.out]; rfl)
        clear hj hlt hb hbx hc
        go_wp2_with ((with_reducible refine gate_dst (N := 21) rfl ?_); refine Kd.R_append Kd.string (w0 := w) w.heap.size rfl (.tmp 19) (.tmp 20) 64 9 (.string ⟨#[]⟩) 16 rfl Tryd.underlying64 infoS rfl (by decide) (by decide) _ ps ⟨#[]⟩ [.string ⟨#[]⟩] (fun _ => True) (fun _ => False) rfl rfl (show Kd.M Kd.string _ _ _ (⟨#[]⟩ : ByteArray) [.string ⟨#[]⟩] from rfl) (fun _ h => h.elim) (fun _ _ => trivial) HO.out HB.out HB.out.size (by have := HPM.out.2.1; have := HLJ.out; have := HS.out; have := HLT.out; omega) ?_; intro v1 w2 ho hb hg hat; have HO2 := Aside0.mk ho; have HB2 := Aside0.mk hb; clear ho hb hg hat)
        go_roundw
        case rel => exact ⟨j + 1, _, HLT.out, by go_num, ⟨HP2.out⟩, ⟨HO2.out⟩, ⟨HB2.out⟩⟩
        case measure => have := HLT.out; simp [intOf]; omega
      · have e1 : ((x : Int) == k) = false := beq_eq_false_iff_ne.2 (fun z => hc (UInt8.toNat_inj.1 (by rw [hbx]; have := HK.out; omega)))
        obtain ⟨n, hn⟩ : ∃ n, ps.length = n := ⟨_, rfl⟩
        have hn1 : 1 ≤ n := by have := List.length_pos_iff.2 HPM.out.1; omega
        obtain ⟨m, rfl⟩ : ∃ m, n = m + 1 := ⟨n - 1, by omega⟩
        obtain ⟨L, hL⟩ : ∃ L, ps[m]'(by omega) = L := ⟨_, rfl⟩
        have HLs := Aside0.mk (show L.size ≤ j from by have := HPM.out.2.2 L (by rw [← hL]; exact List.getElem_mem _); have := HLJ.out; omega)
        obtain ⟨t, ht⟩ : ∃ t, s.extract j (j + 1) = t := ⟨_, rfl⟩
        have HTS := Aside0.mk (show t.size = 1 from by have h := congrArg List.length HEX.out; rw [ht, data_length] at h; exact h)
        have HP2 := Aside0.mk (show (ps.set m (L ++ t)).map (·.data.toList) = cutl c (s.data.toList.take (j + 1)) from by
          have h := part_grow HP.out hc (x := L) (t := t) (by rw [hn]; show ps[m]? = some L; rw [List.getElem?_eq_getElem (by omega), hL]) (by rw [← ht]; exact HEX.out)
          rw [hn] at h
          rw [HTK.out]; exact h)
        obtain ⟨go, cc, e9, hgo, -, cells, hblk⟩ := Kd.R_form HO.out (by omega)
        rw [e9] at HO ⊢
        have HGO := Aside0.mk hgo
        have hcf := Kd.R_cell ByteArray.empty HO.out (m : Int) (by omega) (by omega)
        rw [Int.toNat_natCast, show rdOf ByteArray.empty ps (m : Int) = L from by unfold rdOf; rw [Int.toNat_natCast, List.getD_eq_getElem?_getD, List.getElem?_eq_getElem (by omega), hL]; rfl] at hcf
        obtain ⟨hcell, hfroz⟩ := hcf
        have hadd := str_add L t (by have := HLs.out; have := HTS.out; have := HS.out; have := HLT.out; omega)
        have q0 : (0 ≤ (m : Int)) = True := eq_true (by omega)
        have q1 : ((m : Int) < ((m + 1 : Nat) : Int)) = True := eq_true (by omega)
        have q2 : ((m : Int) < (m : Int) + 1) = True := eq_true (by omega)
        have q3 : (m < m + 1) = True := eq_true (by omega)
        have HMN := Aside0.mk (show m ≤ j from by have := HPM.out.2.1; have := HLJ.out; omega)
        have w1n : wrap64 (m : Int) = (m : Int) := ScG.w64 (by omega) (by have := HMN.out; have := HS.out; have := HLT.out; omega)
        have w2n : wrap64 ((j : Int) + 1) = (j : Int) + 1 := ScG.w64 (n := (j : Int) + 1) (by omega) hmax
        have HN := Aside0.mk hn
        have z1 : ((j : Int) ≤ (j : Int) + 1) = True := eq_true (by omega)
        have z2 : ((j : Int) + 1 ≤ (s.size : Int)) = True := eq_true (by omega)
        have z3 : (0 ≤ (j : Int) + 1) = True := eq_true (by omega)
        have z4 : ((j : Int) + 1).toNat = j + 1 := by omega
        rw [hn] at HO ⊢
        clear hj hlt hb hbx hc hn hL hgo hblk e9 HP HTK HEX hn1
        go_wp2_with fail
        refine start_ (n := 18) (S := fun w' => w'.cell? ⟨go, m, none⟩ = some (.string L)) (ds := [17]) #[false, false, false, false, false, false, false, false, false, false, false, false, false, false, false, false, false, false] (by kernel_rfl) rfl rfl hcell (fun hHeld => ?_)
        have HO2 := Aside0.mk (Kd.R_drew HO.out)
        have HB2 := Aside0.mk (below_drew1 HB.out)
        have hfz : wr.drew.frozen? ⟨go, m, none⟩ = false := hfroz
        clear HO HB hcell hfroz
        generalize wr.drew = W2 at *
        clear wr
        refine pure_ (i := 0) (N := some 22) (v := ?_) (a' := ?_) #[true, false, false, false, false, false, false, false, false, false, false, false, false, false, false, false, false, false] rfl rfl (any_of rfl (by kernel_rfl)) (fun _ _ _ h => h) (Or.inl ⟨by rfl, ?_⟩) ?_ ?_
        rotate_left
        · intro w'
          go_simp
          with_reducible rfl
        rotate_left
        · simp only [Act.put, List.setIfInBounds_toArray, List.set_cons_zero, List.set_cons_succ, i64_w, i32_w]
          rfl
        refine pure_ (i := 1) (N := some 23) (v := ?_) (a' := ?_) #[true, true, false, false, false, false, false, false, false, false, false, false, false, false, false, false, false, false] rfl rfl (any_of rfl (by kernel_rfl)) (fun _ _ _ h => h) (Or.inl ⟨by rfl, ?_⟩) ?_ ?_
        rotate_left
        · intro w'
          go_simp
          with_reducible rfl
        rotate_left
        · simp only [Act.put, List.setIfInBounds_toArray, List.set_cons_zero, List.set_cons_succ, i64_w, i32_w]
          rfl
        refine pure_ (i := 2) (N := some 24) (v := ?_) (a' := ?_) #[true, true, true, false, false, false, false, false, false, false, false, false, false, false, false, false, false, false] rfl rfl (any_of rfl (by kernel_rfl)) (fun _ _ _ h => h) (Or.inl ⟨by rfl, ?_⟩) ?_ ?_
        rotate_left
        · intro w'
          go_simp
          with_reducible rfl
        rotate_left
        · simp only [Act.put, List.setIfInBounds_toArray, List.set_cons_zero, List.set_cons_succ, i64_w, i32_w]
          rfl
        refine pure_ (i := 3) (N := some 25) (v := ?_) (a' := ?_) #[true, true, true, true, false, false, false, false, false, false, false, false, false, false, false, false, false, false] rfl rfl (any_of rfl (by kernel_rfl)) (fun _ _ _ h => h) (Or.inl ⟨by rfl, ?_⟩) ?_ ?_
        rotate_left
        · intro w'
          go_simp
          with_reducible rfl
        rotate_left
        · simp only [Act.put, List.setIfInBounds_toArray, List.set_cons_zero, List.set_cons_succ, i64_w, i32_w]
          rfl
        refine pure_ (i := 4) (N := some 26) (v := ?_) (a' := ?_) #[true, true, true, true, true, false, false, false, false, false, false, false, false, false, false, false, false, false] rfl rfl (any_of rfl (by kernel_rfl)) (fun _ _ _ h => h) (Or.inl ⟨by rfl, ?_⟩) ?_ ?_
        rotate_left
        · intro w'
          go_simp
          with_reducible rfl
        rotate_left
        · simp only [Act.put, List.setIfInBounds_toArray, List.set_cons_zero, List.set_cons_succ, i64_w, i32_w]
          rfl
        refine pure_ (i := 5) (N := some 27) (v := ?_) (a' := ?_) #[true, true, true, true, true, true, false, false, false, false, false, false, false, false, false, false, false, false] rfl rfl (any_of rfl (by kernel_rfl)) (fun _ _ _ h => h) (Or.inl ⟨by rfl, ?_⟩) ?_ ?_
        rotate_left
        · intro w'
          go_simp
          with_reducible rfl
        rotate_left
        · simp only [Act.put, List.setIfInBounds_toArray, List.set_cons_zero, List.set_cons_succ, i64_w, i32_w]
          rfl
        refine pure_ (i := 6) (N := some 28) (v := ?_) (a' := ?_) #[true, true, true, true, true, true, true, false, false, false, false, false, false, false, false, false, false, false] rfl rfl (any_of rfl (by kernel_rfl)) (fun _ _ _ h => h) (Or.inl ⟨by rfl, ?_⟩) ?_ ?_
        rotate_left
        · intro w'
          go_simp
          with_reducible rfl
        rotate_left
        · simp only [Act.put, List.setIfInBounds_toArray, List.set_cons_zero, List.set_cons_succ, i64_w, i32_w]
          rfl
        refine pure_ (i := 7) (N := some 29) (v := ?_) (a' := ?_) #[true, true, true, true, true, true, true, true, false, false, false, false, false, false, false, false, false, false] rfl rfl (any_of rfl (by kernel_rfl)) (fun _ _ _ h => h) (Or.inl ⟨by rfl, ?_⟩) ?_ ?_
        rotate_left
        · intro w'
          go_simp
          with_reducible rfl
        rotate_left
        · simp only [Act.put, List.setIfInBounds_toArray, List.set_cons_zero, List.set_cons_succ, i64_w, i32_w]
          rfl
        refine pure_ (i := 8) (N := some 30) (v := ?_) (a' := ?_) #[true, true, true, true, true, true, true, true, true, false, false, false, false, false, false, false, false, false] rfl rfl (any_of rfl (by kernel_rfl)) (fun _ _ _ h => h) (Or.inl ⟨by rfl, ?_⟩) ?_ ?_
        rotate_left
        · intro w'
          go_simp
          with_reducible rfl
        rotate_left
        · simp only [Act.put, List.setIfInBounds_toArray, List.set_cons_zero, List.set_cons_succ, i64_w, i32_w]
          rfl
        refine take_ (i := 9) (N := some 31) (v := ?_) (a' := ?_) #[true, true, true, true, true, true, true, true, true, true, false, false, false, false, false, false, false, false] rfl rfl (take_of rfl (by kernel_rfl)) (fun _ _ _ h => h) (Or.inl ⟨by rfl, ?_⟩) hHeld ?_ ?_
        rotate_left
        · rintro w' s0
          go_simp
          with_reducible rfl
        rotate_left
        · simp only [Act.put, List.setIfInBounds_toArray, List.set_cons_zero, List.set_cons_succ, i64_w, i32_w]
          rfl
        refine pure_ (i := 10) (N := some 32) (v := ?_) (a' := ?_) #[true, true, true, true, true, true, true, true, true, true, true, false, false, false, false, false, false, false] rfl rfl (any_of rfl (by kernel_rfl)) (fun _ _ _ h => h) (Or.inl ⟨by rfl, ?_⟩) ?_ ?_
        rotate_left
        · intro w'
          go_simp
          with_reducible rfl
        rotate_left
        · simp only [Act.put, List.setIfInBounds_toArray, List.set_cons_zero, List.set_cons_succ, i64_w, i32_w]
          rfl
        refine pure_ (i := 11) (N := some 33) (v := ?_) (a' := ?_) #[true, true, true, true, true, true, true, true, true, true, true, true, false, false, false, false, false, false] rfl rfl (any_of rfl (by kernel_rfl)) (fun _ _ _ h => h) (Or.inl ⟨by rfl, ?_⟩) ?_ ?_
        rotate_left
        · intro w'
          go_simp
          with_reducible rfl
        rotate_left
        · simp only [Act.put, List.setIfInBounds_toArray, List.set_cons_zero, List.set_cons_succ, i64_w, i32_w]
          rfl
        refine pure_ (i := 12) (N := some 34) (v := ?_) (a' := ?_) #[true, true, true, true, true, true, true, true, true, true, true, true, true, false, false, false, false, false] rfl rfl (any_of rfl (by kernel_rfl)) (fun _ _ _ h => h) (Or.inl ⟨by rfl, ?_⟩) ?_ ?_
        rotate_left
        · intro w'
          go_simp
          with_reducible rfl
        rotate_left
        · simp only [Act.put, List.setIfInBounds_toArray, List.set_cons_zero, List.set_cons_succ, i64_w, i32_w]
          rfl
        refine pure_ (i := 13) (N := some 35) (v := ?_) (a' := ?_) #[true, true, true, true, true, true, true, true, true, true, true, true, true, true, false, false, false, false] rfl rfl (any_of rfl (by kernel_rfl)) (fun _ _ _ h => h) (Or.inl ⟨by rfl, ?_⟩) ?_ ?_
        rotate_left
        · intro w'
          go_simp
          with_reducible rfl
        rotate_left
        · simp only [Act.put, List.setIfInBounds_toArray, List.set_cons_zero, List.set_cons_succ, i64_w, i32_w]
          rfl
        refine pure_ (i := 14) (N := some 36) (v := ?_) (a' := ?_) #[true, true, true, true, true, true, true, true, true, true, true, true, true, true, true, false, false, false] rfl rfl (any_of rfl (by kernel_rfl)) (fun _ _ _ h => h) (Or.inl ⟨by rfl, ?_⟩) ?_ ?_
        rotate_left
        · intro w'
          go_simp
          with_reducible rfl
        rotate_left
        · simp only [Act.put, List.setIfInBounds_toArray, List.set_cons_zero, List.set_cons_succ, i64_w, i32_w]
          rfl
        refine pure_ (i := 15) (N := some 37) (v := ?_) (a' := ?_) #[true, true, true, true, true, true, true, true, true, true, true, true, true, true, true, true, false, false] rfl rfl (any_of rfl (by kernel_rfl)) (fun _ _ _ h => h) (Or.inl ⟨by rfl, ?_⟩) ?_ ?_
        rotate_left
        · intro w'
          go_simp
          with_reducible rfl
        rotate_left
        · simp only [Act.put, List.setIfInBounds_toArray, List.set_cons_zero, List.set_cons_succ, i64_w, i32_w]
          rfl
        refine pure_ (i := 16) (N := some 38) (v := ?_) (a' := ?_) #[true, true, true, true, true, true, true, true, true, true, true, true, true, true, true, true, true, false] rfl rfl (any_of rfl (by kernel_rfl)) (fun _ _ _ h => h) (Or.inl ⟨by rfl, ?_⟩) ?_ ?_
        rotate_left
        · intro w'
          go_simp
          with_reducible rfl
        rotate_left
        · simp only [Act.put, List.setIfInBounds_toArray, List.set_cons_zero, List.set_cons_succ, i64_w, i32_w]
          rfl
        refine last_ (i := 17) (N := none) #[true, true, true, true, true, true, true, true, true, true, true, true, true, true, true, true, true, true] rfl rfl (one_of rfl (by kernel_rfl)) (by decide) (fun K hK => ?_)
        refine skip_ (w1 := W2.setCell ⟨go, m, none⟩ (.string (L ++ t))) (by rfl) rfl (by go_simp) ?_
        refine hK.out _ _ ?_
        clear hK K
        refine done_ (done_of rfl (by kernel_rfl)) ?_
        obtain ⟨hP, hPg⟩ := Kd.R_putg HO2.out (m : Int) (L ++ t)
        rw [Int.toNat_natCast] at hP hPg
        have HO3 := Aside0.mk hP
        have HB3 := Aside0.mk (HB2.out.grown hPg HB2.out.size (fun k e => by injection e with e; rw [← e]; exact HGO.out))
        have HW3 := Aside0.mk (rfl : W2.setCell ⟨go, m, none⟩ (.string (L ++ t)) = W2.setCell ⟨go, m, none⟩ (.string (L ++ t)))
        clear hP hPg hfz hHeld w1n w2n hadd q0 q1 q2 q3 z1 z2 z3 z4 ht HO2 HB2 HW3
        generalize W2.setCell ⟨go, m, none⟩ (.string (L ++ t)) = W3 at *
        go_wp2_with fail
        go_roundw
        case rel => exact ⟨j + 1, _, HLT.out, by go_num, ⟨HP2.out⟩, ⟨HO3.out⟩, ⟨HB3.out⟩⟩
        case measure => have := HLT.out; simp [intOf]; omega
    · have u1 : decide ((j : Int) < (s.size : Int)) = false := decide_eq_false (by omega)
      have u2 : decide (j < s.size) = false := decide_eq_false hlt
      have HP2 := Aside0.mk (show ps.map (·.data.toList) = cutl c s.data.toList from by rw [HP.out, List.take_of_length_le (by rw [data_length]; omega)])
      clear hj hlt HP
      go_wp2
      go_ret
      exact ⟨_, ps, rfl, HO.out, HP2.out, HB.out⟩
end Go.Proofs.YtciolchdihlgfaaDoor.Sc
/-! Schema: the document's Parse. -/
namespace Go.Proofs.YtciolchdihlgfaaDoor.Sc
open Go.RowKit Go.Proofs.YtciolchdihlgfaaDoorW.PrintWords Go.Proofs.YtciolchdihlgfaaDoorW.PrintLast Go.Proofs.YtciolchdihlgfaaDoorW.PrintMore Go.Proofs.YtciolchdihlgfaaDoor.Wire Go.Proofs.YtciolchdihlgfaaDoor.PSc Go.Proofs.YtciolchdihlgfaaDoor.PCo Go.Proofs.YtciolchdihlgfaaDoor.Co Go.Proofs.YtciolchdihlgfaaDoor.Ce Go.Proofs.YtciolchdihlgfaaDoor.Cut
set_option linter.unusedVariables false
set_option linter.unusedSimpArgs false
set_option maxRecDepth 100000
theorem lists_inj : ∀ {l m : List ByteArray}, l.map (·.data.toList) = m.map (·.data.toList) → l = m
  | [], [], _ => rfl
  | [], b :: m, h => by simp at h
  | a :: l, [], h => by simp at h
  | a :: l, b :: m, h => by
    simp only [List.map_cons, List.cons.injEq] at h
    rw [data_inj h.1, lists_inj h.2]
/-- The kind so far. -/
def kq (ws : List ByteArray) (q : Nat) : Int := if ws.length = 2 then lastIdx (ws.getD 1 ByteArray.empty) q else -1
theorem kq_end (ws : List ByteArray) : kq ws 6 = kindW ws := by unfold kq kindW; rw [last_idx]
theorem kq_no {ws : List ByteArray} (h : ws.length ≠ 2) (q : Nat) : kq ws q = kindW ws := by unfold kq kindW; rw [if_neg h, if_neg h]
theorem kq_step {ws : List ByteArray} (h : ws.length = 2) (q : Nat) : kq ws (q + 1) = if NAMES.getD q ByteArray.empty = ws.getD 1 ByteArray.empty then (q : Int) else kq ws q := by unfold kq; rw [if_pos h, if_pos h, lastIdx]
theorem str_eq (a b : ByteArray) : (a.toList == b.toList) = decide (a = b) := by
  rw [str_toList, str_toList]
  by_cases h : a = b
  · rw [decide_eq_true h, h]; simp
  · rw [decide_eq_false h]; exact beq_eq_false_iff_ne.2 (fun e => h (data_inj e))
set_option maxHeartbeats 32000000 in
theorem rparse_calls (s : ByteArray) (hs : s.size ≤ 1000000) (w : World) :
    Calls Tryd.prog 10 #[.string s] w fun e w' => ∃ v, e = .returned (.tuple #[v, .int .i64 (prs s).2]) ∧ Kd.R k53 53 w' w.heap.size (fun _ => True) v (prs s).1 ∧ Below w.heap.size w w' := by
  have HC := Aside0.mk (rcut_calls s 44 44 rfl hs w)
  have hgo : pgo (parts s) [] = prs s := rfl
  have hpl : (parts s).map (·.data.toList) = cutl 44 s.data.toList := splitB_cutl 44 s
  obtain ⟨R, hR⟩ : ∃ R, prs s = R := ⟨_, rfl⟩
  rw [hR] at hgo ⊢
  have HGO := Aside0.mk hgo
  have HPL := Aside0.mk hpl
  have HS := Aside0.mk hs
  clear hs hgo hpl hR
  go_enter Tryd.func10, Tryd.ntmps10
  go_wp2_with fail
  refine HC.out.mono ?_
  rintro e w1 ⟨v, P, rfl, hv, hp, hb⟩
  obtain ⟨A4, c4, rfl, hc4, hC⟩ := Kd.R_reads hv
  obtain rfl : P = parts s := lists_inj (hp.trans HPL.out.symm)
  have HSZ := Aside0.mk (fun p (hp : p ∈ parts s) => Nat.le_trans (split_size ⟨#[44]⟩ _ s p hp) HS.out)
  have hlen := (part_max hp).2.1
  rw [data_length] at hlen
  obtain ⟨P, hP⟩ : ∃ P, parts s = P := ⟨_, rfl⟩
  rw [hP] at HSZ HGO hlen hC ⊢
  obtain ⟨n, hn⟩ : ∃ n, P.length = n := ⟨_, rfl⟩
  have HN := Aside0.mk hn
  have HN1 := Aside0.mk (show n ≤ 1000001 from by have := HS.out; omega)
  have HCP := Aside0.mk hC
  have HBW := Aside0.mk hb
  rw [hn]
  clear HC hv hp hb hc4 hC HPL hP hn hlen
  go_wp2_with fail
  go_loopw [5, 6, 7, 8, 9, 10] (fun v i q1 q2 q3 q4 wr => ∃ (j : Nat) (acc : List Col), j ≤ n ∧ i = .int .i64 (j : Int) ∧ Aside0 (acc.length = j) ∧ Aside0 (∀ c ∈ acc, c.f0.size ≤ 1000000) ∧ Aside0 (pgo (P.drop j) acc = R) ∧ Aside0 (Kd.R k53 53 wr w1.heap.size (fun _ => True) v acc) ∧ Aside0 (Below w1.heap.size w1 wr)) (fun _ i _ _ _ _ _ => n - (intOf i).toNat)
  case atStart => exact ⟨0, [], by omega, rfl, ⟨rfl⟩, ⟨fun _ h => by cases h⟩, ⟨HGO.out⟩, ⟨Kd.R_nil _ _ _ _ _⟩, ⟨Below.refl _ _⟩⟩
  case round =>
    clear HGO
    obtain ⟨w2, hw2⟩ : ∃ w2, w2 = wr := ⟨_, rfl⟩
    subst hw2
    obtain ⟨j, acc, hj, rfl, HA, HAS, HT, HO, HB⟩ := hrel
    obtain ⟨A5, c5, rfl⟩ := Kd.R_slice HO.out
    by_cases hlt : j < n
    · have u1 : decide ((j : Int) < (n : Int)) = true := decide_eq_true (by omega)
      have u2 : decide (j < n) = true := decide_eq_true hlt
      have hjp : j < P.length := by have := HN.out; omega
      obtain ⟨p, hp⟩ : ∃ p, P[j] = p := ⟨_, rfl⟩
      obtain ⟨ad, ea, hx⟩ := Kd.at_string (Kd.C_below HCP.out HB.out) (j : Int) (by omega) (by omega)
      subst ea
      rw [Int.toNat_natCast, show rdOf ByteArray.empty P (j : Int) = p from by unfold rdOf; rw [Int.toNat_natCast, List.getD_eq_getElem?_getD, List.getElem?_eq_getElem hjp, hp]; rfl] at hx
      have HPM := Aside0.mk (HSZ.out p (by rw [← hp]; exact List.getElem_mem hjp))
      have HT2 := Aside0.mk (show (if (pcol p).f1 < 0 then (([] : List Col), (6 : Int)) else pgo (P.drop (j + 1)) (acc ++ [pcol p])) = R from by
        rw [← HT.out, List.drop_eq_getElem_cons hjp, pgo, hp])
      have HLT := Aside0.mk hlt
      have p0 : (0 ≤ (j : Int)) = True := eq_true (by omega)
      have p1 : ((j : Int) < (n : Int)) = True := eq_true (by omega)
      have hmax : (j : Int) + 1 ≤ 9223372036854775807 := by have := HN1.out; omega
      have HC2 := Aside0.mk (rcut_calls p 58 58 rfl HPM.out w2)
      clear hj hlt hjp hp HT
      go_wp2_with fail
      clear hx
      refine HC2.out.mono ?_
      rintro e w3 ⟨v, ws, rfl, hv, hp, hb⟩
      obtain ⟨g7, c7, rfl, -, -, -⟩ := Kd.R_form hv (List.length_pos_iff.2 (part_max hp).1)
      have hC := (Kd.R_reads' hv).2.2
      have HPC := Aside0.mk (kind_pcol hp)
      have HWM := Aside0.mk (part_max hp)
      have HC7 := Aside0.mk hC
      have HO3 := Aside0.mk (Kd.R_below HO.out hb)
      have HB3 := Aside0.mk (below_step HB.out hb)
      have HNM := Aside0.mk (deckleref04_Names.calls NAMES w3 rfl)
      clear hv hp hb hC HC2 HO HB
      go_wp2_with fail
      refine HNM.out.mono ?_
      rintro e w4 ⟨v, rfl, hv, hb⟩
      obtain ⟨A9, c9, rfl, -, hC⟩ := Kd.R_reads hv
      have HC9 := Aside0.mk (show Kd.C Kd.string w4 A9 6 NAMES from hC)
      have HC7b := Aside0.mk (Kd.C_below HC7.out hb)
      have HO4 := Aside0.mk (Kd.R_below HO3.out hb)
      have HB4 := Aside0.mk (below_step HB3.out hb)
      rw [show NAMES.length = 6 from rfl]
      clear hv hb hC HNM HC7 HO3 HB3
      go_wp2_with fail
      go_loopw [8, 10] (fun kd k wr => ∃ q : Nat, q ≤ 6 ∧ k = .int .i64 (q : Int) ∧ kd = .int .i64 (kq ws q) ∧ Aside0 (Below w4.heap.size w4 wr)) (fun _ k _ => 6 - (intOf k).toNat)
      case atStart => exact ⟨0, by omega, rfl, by unfold kq; split <;> rfl, ⟨Below.refl _ _⟩⟩
      case round =>
        obtain ⟨q, hq, rfl, rfl, HBq⟩ := hrel
        by_cases h6 : q < 6
        · have v1 : decide ((q : Int) < 6) = true := decide_eq_true (by omega)
          have v2 : decide (q < 6) = true := decide_eq_true h6
          by_cases h2 : ws.length = 2
          · have v3 : ((ws.length : Int) == 2) = true := beq_iff_eq.2 (by omega)
            obtain ⟨ad9, e9, hx9⟩ := Kd.at_string (Kd.C_below HC9.out HBq.out) (q : Int) (by omega) (by omega)
            subst e9
            obtain ⟨ad7, e7, hx7⟩ := Kd.at_string (Kd.C_below HC7b.out HBq.out) 1 (by omega) (by omega)
            obtain rfl : (⟨g7, 0, none⟩ : Addr) = ad7 := Option.some.inj e7
            clear e7
            rw [Int.toNat_natCast, show rdOf ByteArray.empty NAMES (q : Int) = NAMES.getD q ByteArray.empty from by unfold rdOf; rw [Int.toNat_natCast]] at hx9
            rw [show (1 : Int).toNat = 1 from rfl, add_plain, show rdOf ByteArray.empty ws 1 = ws.getD 1 ByteArray.empty from rfl] at hx7
            have hst := kq_step h2 q
            obtain ⟨x, hx⟩ : ∃ x, NAMES.getD q ByteArray.empty = x := ⟨_, rfl⟩
            obtain ⟨y, hy⟩ : ∃ y, ws.getD 1 ByteArray.empty = y := ⟨_, rfl⟩
            rw [hx] at hx9 hst
            rw [hy] at hx7 hst
            have HST := Aside0.mk hst
            have H6 := Aside0.mk h6
            have q0 : (0 ≤ (q : Int)) = True := eq_true (by omega)
            have q1 : ((q : Int) < 6) = True := eq_true (by omega)
            have q2 : ((1 : Int) < (ws.length : Int)) = True := eq_true (by omega)
            have q3 : (1 < ws.length) = True := eq_true (by omega)
            have hmax2 : (q : Int) + 1 ≤ 9223372036854775807 := by omega
            clear hq h6 h2 hx hy hst
            by_cases he : x = y
            · have e1 : (x.toList == y.toList) = true := by rw [str_eq]; exact decide_eq_true he
              have HST2 := Aside0.mk (HST.out.trans (if_pos he))
              clear he HST
              go_wp2_with fail
              go_quiet (fail)
              go_wp2_with fail
              go_roundw
              case rel => exact ⟨q + 1, H6.out, by go_num, by rw [HST2.out], ⟨pw_below_drewN HBq.out _⟩⟩
              case measure => have := H6.out; simp [intOf]; omega
            · have e1 : (x.toList == y.toList) = false := by rw [str_eq]; exact decide_eq_false he
              have HST2 := Aside0.mk (HST.out.trans (if_neg he))
              clear he HST
              go_wp2_with fail
              go_quiet (fail)
              go_wp2_with fail
              go_roundw
              case rel => exact ⟨q + 1, H6.out, by go_num, by rw [HST2.out], ⟨pw_below_drewN HBq.out _⟩⟩
              case measure => have := H6.out; simp [intOf]; omega
          · have v3 : ((ws.length : Int) == 2) = false := beq_eq_false_iff_ne.2 (by omega)
            have HKD := Aside0.mk (kq_no h2 q)
            clear h6 h2
            obtain ⟨kd, hkd⟩ : ∃ kd, kindW ws = kd := ⟨_, rfl⟩
            have HPC2 := Aside0.mk (show pcol p = ⟨ws.getD 0 ByteArray.empty, kd⟩ from by rw [HPC.out, hkd])
            rw [HKD.out, hkd]
            have HT3 := HT2
            rw [HPC2.out] at HT3
            obtain ⟨nm, hnm⟩ : ∃ nm, ws.getD 0 ByteArray.empty = nm := ⟨_, rfl⟩
            rw [hnm] at HT3
            have hwp : 0 < ws.length := List.length_pos_iff.2 HWM.out.1
            have HNS := Aside0.mk (show nm.size ≤ 1000000 from by
              have h := HWM.out.2.2 nm (by rw [← hnm, List.getD_eq_getElem?_getD, List.getElem?_eq_getElem hwp]; exact List.getElem_mem _)
              rw [data_length] at h
              have := HPM.out
              omega)
            obtain ⟨ad7, e7, hx7⟩ := Kd.at_string (Kd.C_below HC7b.out HBq.out) 0 (by omega) (by omega)
            obtain rfl : (⟨g7, 0, none⟩ : Addr) = ad7 := Option.some.inj e7
            clear e7
            rw [show (0 : Int).toNat = 0 from rfl, add_plain, show rdOf ByteArray.empty ws 0 = nm from hnm] at hx7
            have HO5 := Aside0.mk (Kd.R_below HO4.out HBq.out)
            have HB5 := Aside0.mk (below_step HB4.out HBq.out)
            have z0 : ((0 : Int) < (ws.length : Int)) = True := eq_true (by omega)
            have z1 : (0 < ws.length) = True := eq_true hwp
            clear hkd hnm hwp HPC HPC2 HT2 HKD HWM HC7b HC9 HBq HO4 HB4 hq
            by_cases hk : kd < 0
            · have t1 : decide (kd < 0) = true := decide_eq_true hk
              have hr : R = ([], 6) := by rw [← HT3.out]; exact if_pos hk
              subst hr
              clear hk HT3
              go_wp2
              go_ret2
              exact ⟨_, rfl, Kd.R_nil _ _ _ _ _, below_step HBW.out HB5.out⟩
            have t1 : decide (kd < 0) = false := decide_eq_false hk
            have HT4 := Aside0.mk (show pgo (P.drop (j + 1)) (acc ++ [⟨nm, kd⟩]) = R from by rw [← HT3.out]; exact (if_neg hk).symm)
            clear hk HT3
            go_wp2_with ((with_reducible refine gate_dst (N := 55) rfl ?_); refine Kd.R_append k53 (w0 := w1) w1.heap.size rfl (.tmp 48) (.tmp 54) 24 53 (.agg #[.string ⟨#[]⟩, .int .i64 0]) 24 rfl Tryd.underlying24 infoC rfl (by decide) (by decide) _ acc ⟨nm, kd⟩ [.string nm, .int .i64 kd] (fun _ => True) (fun _ => False) rfl rfl (k53_mkM _ _ _ _) (fun _ h => h.elim) (fun _ _ => trivial) HO5.out HB5.out HB5.out.size (by have := HA.out; have := HLT.out; have := HN1.out; omega) ?_; intro v1 w9 ho hb hg hat; have HO6 := Aside0.mk ho; have HB6 := Aside0.mk hb; clear ho hb hg hat)
            go_roundw
            case rel => exact ⟨j + 1, acc ++ [⟨nm, kd⟩], HLT.out, by go_num, ⟨by rw [List.length_append, HA.out]; rfl⟩, ⟨fun c hc => (List.mem_append.1 hc).elim (HAS.out c) (fun h => by rw [List.mem_singleton.1 h]; exact HNS.out)⟩, ⟨HT4.out⟩, ⟨HO6.out⟩, ⟨HB6.out⟩⟩
            case measure => have := HLT.out; simp [intOf]; omega
        · have v1 : decide ((q : Int) < 6) = false := decide_eq_false (by omega)
          have v2 : decide (q < 6) = false := decide_eq_false h6
          obtain rfl : q = 6 := by omega
          have HKD := Aside0.mk (kq_end ws)
          clear h6
          obtain ⟨kd, hkd⟩ : ∃ kd, kindW ws = kd := ⟨_, rfl⟩
          have HPC2 := Aside0.mk (show pcol p = ⟨ws.getD 0 ByteArray.empty, kd⟩ from by rw [HPC.out, hkd])
          rw [HKD.out, hkd]
          have HT3 := HT2
          rw [HPC2.out] at HT3
          obtain ⟨nm, hnm⟩ : ∃ nm, ws.getD 0 ByteArray.empty = nm := ⟨_, rfl⟩
          rw [hnm] at HT3
          have hwp : 0 < ws.length := List.length_pos_iff.2 HWM.out.1
          have HNS := Aside0.mk (show nm.size ≤ 1000000 from by
            have h := HWM.out.2.2 nm (by rw [← hnm, List.getD_eq_getElem?_getD, List.getElem?_eq_getElem hwp]; exact List.getElem_mem _)
            rw [data_length] at h
            have := HPM.out
            omega)
          obtain ⟨ad7, e7, hx7⟩ := Kd.at_string (Kd.C_below HC7b.out HBq.out) 0 (by omega) (by omega)
          obtain rfl : (⟨g7, 0, none⟩ : Addr) = ad7 := Option.some.inj e7
          clear e7
          rw [show (0 : Int).toNat = 0 from rfl, add_plain, show rdOf ByteArray.empty ws 0 = nm from hnm] at hx7
          have HO5 := Aside0.mk (Kd.R_below HO4.out HBq.out)
          have HB5 := Aside0.mk (below_step HB4.out HBq.out)
          have z0 : ((0 : Int) < (ws.length : Int)) = True := eq_true (by omega)
          have z1 : (0 < ws.length) = True := eq_true hwp
          clear hkd hnm hwp HPC HPC2 HT2 HKD HWM HC7b HC9 HBq HO4 HB4 hq
          by_cases hk : kd < 0
          · have t1 : decide (kd < 0) = true := decide_eq_true hk
            have hr : R = ([], 6) := by rw [← HT3.out]; exact if_pos hk
            subst hr
            clear hk HT3
            go_wp2
            go_ret2
            exact ⟨_, rfl, Kd.R_nil _ _ _ _ _, below_step HBW.out HB5.out⟩
          have t1 : decide (kd < 0) = false := decide_eq_false hk
          have HT4 := Aside0.mk (show pgo (P.drop (j + 1)) (acc ++ [⟨nm, kd⟩]) = R from by rw [← HT3.out]; exact (if_neg hk).symm)
          clear hk HT3
          go_wp2_with ((with_reducible refine gate_dst (N := 55) rfl ?_); refine Kd.R_append k53 (w0 := w1) w1.heap.size rfl (.tmp 48) (.tmp 54) 24 53 (.agg #[.string ⟨#[]⟩, .int .i64 0]) 24 rfl Tryd.underlying24 infoC rfl (by decide) (by decide) _ acc ⟨nm, kd⟩ [.string nm, .int .i64 kd] (fun _ => True) (fun _ => False) rfl rfl (k53_mkM _ _ _ _) (fun _ h => h.elim) (fun _ _ => trivial) HO5.out HB5.out HB5.out.size (by have := HA.out; have := HLT.out; have := HN1.out; omega) ?_; intro v1 w9 ho hb hg hat; have HO6 := Aside0.mk ho; have HB6 := Aside0.mk hb; clear ho hb hg hat)
          go_roundw
          case rel => exact ⟨j + 1, acc ++ [⟨nm, kd⟩], HLT.out, by go_num, ⟨by rw [List.length_append, HA.out]; rfl⟩, ⟨fun c hc => (List.mem_append.1 hc).elim (HAS.out c) (fun h => by rw [List.mem_singleton.1 h]; exact HNS.out)⟩, ⟨HT4.out⟩, ⟨HO6.out⟩, ⟨HB6.out⟩⟩
          case measure => have := HLT.out; simp [intOf]; omega
    · have u1 : decide ((j : Int) < (n : Int)) = false := decide_eq_false (by omega)
      have u2 : decide (j < n) = false := decide_eq_false hlt
      have HT2 := Aside0.mk (show (if sck acc = 0 then (acc, 0) else (([] : List Col), sck acc)) = R from by rw [← HT.out, List.drop_eq_nil_of_le (by have := HN.out; omega), pgo])
      have HCK := Aside0.mk (rck_calls w2 (Kd.R_reads' HO.out).2.2 (Kd.R_reads' HO.out).2.1)
      obtain ⟨k, hk⟩ : ∃ k, sck acc = k := ⟨_, rfl⟩
      rw [hk] at HCK HT2
      clear hj hlt HT hk
      by_cases h0 : k = 0
      · subst h0
        have hr : R = (acc, 0) := by rw [← HT2.out, if_pos rfl]
        subst hr
        clear HT2
        go_wp2_with fail
        refine HCK.out.mono ?_
        rintro e w5 ⟨rfl, hb⟩
        have HO2 := Aside0.mk (Kd.R_lower (Kd.R_below HO.out hb) HBW.out.size)
        have HB2 := Aside0.mk (below_step HBW.out (below_step HB.out hb))
        clear hb
        go_wp2_with fail
        go_ret2
        exact ⟨_, rfl, HO2.out, HB2.out⟩
      · have t1 : (k != 0) = true := bne_iff_ne.mpr h0
        have hr : R = ([], k) := by rw [← HT2.out, if_neg h0]
        subst hr
        clear HT2 h0
        go_wp2_with fail
        refine HCK.out.mono ?_
        rintro e w5 ⟨rfl, hb⟩
        have HB2 := Aside0.mk (below_step HBW.out (below_step HB.out hb))
        clear hb
        go_wp2_with fail
        go_ret2
        exact ⟨_, rfl, Kd.R_nil _ _ _ _ _, HB2.out⟩
end Go.Proofs.YtciolchdihlgfaaDoor.Sc
/-! Schema: the document's Take, Read. -/
namespace Go.Proofs.YtciolchdihlgfaaDoor.Sc
open Go.RowKit Go.Proofs.YtciolchdihlgfaaDoorW.PrintWords Go.Proofs.YtciolchdihlgfaaDoorW.PrintLast Go.Proofs.YtciolchdihlgfaaDoorW.PrintMore Go.Proofs.YtciolchdihlgfaaDoor.Wire Go.Proofs.YtciolchdihlgfaaDoor.PSc Go.Proofs.YtciolchdihlgfaaDoor.Co Go.Proofs.YtciolchdihlgfaaDoor.Ce Go.Proofs.YtciolchdihlgfaaDoor.Rd
set_option linter.unusedVariables false
set_option linter.unusedSimpArgs false
set_option maxRecDepth 100000
theorem keeps {W W' : World} {g : Nat} (h : KeepBut W W' g none) : Kept W W' (fun k => k = g) := ⟨h.1, fun k hk hn => h.2 k hk hn (by simp)⟩
/-- The document's Must: the error behind it. -/
def mst (e : Int) (ok : Bool) (c : Int) : Int := if e = 0 then (if ok = true then 0 else c) else e
theorem must_f (l : List Int) (a e : Int) (ok : Bool) (c : Int) : deckleref03_Reader_Must.f l a e ok c = some (a, mst e ok c) := by
  unfold deckleref03_Reader_Must.f mst
  by_cases h : e = 0
  · subst h
    cases ok <;> rfl
  · rw [if_neg h, if_neg h]
theorem rUint_ {l : List Int} (hb : Bytes l) (hl : l.length ≤ 140737488351232) : ∃ (X a e : Int), deckleref03_Reader_Uint.f 30 l 0 0 8 = some (X, a, e) ∧ (∃ n : Nat, X = n ∧ n ≤ 8) ∧ (∃ n : Nat, a = n ∧ n ≤ l.length) ∧
    ((mst e (decide (0 < X)) 4 = 0 ∧ rtk l = rgo l X.toNat a.toNat []) ∨ (mst e (decide (0 < X)) 4 ≠ 0 ∧ X = 0 ∧ rtk l = ([], a.toNat, mst e (decide (0 < X)) 4))) := by
  have hg : deckleref01_GetUint.f 30 (l.drop ((0 : Int)).toNat) = some (gu (l.drop 0)) := ScG.refGetUint (l.drop 0) (hb.drop 0) (by rw [List.length_drop]; omega) 30 (by decide)
  have hf : ∀ q, gu (l.drop 0) = q → deckleref03_Reader_Uint.f 30 l 0 0 8 = deckleref03_Reader_Uint.g 0 8 q := fun q hq => by
    unfold deckleref03_Reader_Uint.f
    rw [if_pos ⟨Int.le_refl _, by omega⟩, if_neg (not_not_intro rfl), hg, hq]; rfl
  unfold rtk
  by_cases he : ge l 0 ≠ 0
  · rw [if_pos he]
    have h1 := hf _ (g_err he)
    unfold deckleref03_Reader_Uint.g at h1
    dsimp only at h1
    rw [if_pos he] at h1
    refine ⟨0, 0, ge l 0, h1, ⟨0, rfl, by decide⟩, ⟨0, rfl, Nat.zero_le _⟩, .inr ?_⟩
    have : mst (ge l 0) (decide ((0 : Int) < 0)) 4 = ge l 0 := by unfold mst; rw [if_neg he]
    rw [this]
    exact ⟨he, rfl, rfl⟩
  rw [if_neg he]
  obtain ⟨eg, hx0, hx1, -, -, ha3, -⟩ := g_ok hb (Nat.zero_le _) (Decidable.not_not.1 he)
  have h1 := hf _ eg
  unfold deckleref03_Reader_Uint.g at h1
  dsimp only at h1
  rw [if_neg (not_not_intro rfl)] at h1
  by_cases h8 : 8 < gx l 0
  · rw [if_pos h8]
    rw [if_pos (by omega)] at h1
    exact ⟨0, 0, 3, h1, ⟨0, rfl, by decide⟩, ⟨0, rfl, Nat.zero_le _⟩, .inr ⟨by decide, rfl, rfl⟩⟩
  rw [if_neg h8]
  rw [if_neg (by omega), if_pos (by omega)] at h1
  obtain ⟨X, hX⟩ := Int.eq_ofNat_of_zero_le hx0
  rw [hX] at h1 ⊢
  refine ⟨_, _, _, h1, ⟨X, rfl, by omega⟩, ⟨gk l 0, by omega, by omega⟩, ?_⟩
  by_cases hx : X = 0
  · subst hx
    rw [if_pos (show ((0 : Nat) : Int) = 0 from rfl)]
    exact .inr ⟨by decide, rfl, by rw [Int.zero_add, Int.toNat_natCast]; rfl⟩
  · rw [if_neg (by omega)]
    have hd : decide ((0 : Int) < (X : Int)) = true := decide_eq_true (by omega)
    rw [hd]
    exact .inl ⟨rfl, by rw [Int.zero_add, Int.toNat_natCast, Int.toNat_natCast]⟩
theorem round_ {l : List Int} (hb : Bytes l) (hl : l.length ≤ 140737488351232) {a : Nat} (ha : a ≤ l.length) (m : Nat) (xs : List Col) : ∃ (p : List Int) (a1 : Nat) (e1 : Int), deckleref03_Reader_Bytes.f 30 l (a : Int) 0 32 = some (p, (a1 : Int), e1) ∧ p.length ≤ 32 ∧ a1 ≤ l.length ∧
    ∃ (k : Int) (a2 : Nat) (e3 : Int), deckleref03_Reader_Byte.f l (a1 : Int) (mst e1 (fine (nms xs) (strOfNums p)) 2) = some (k, (a2 : Int), e3) ∧ a2 ≤ l.length ∧ (0 ≤ k ∧ k < 256) ∧
      ((mst e3 (decide (k ≤ 5)) 10 = 0 ∧ rgo l (m + 1) a xs = rgo l m a2 (xs ++ [⟨strOfNums p, k⟩])) ∨ (mst e3 (decide (k ≤ 5)) 10 ≠ 0 ∧ rgo l (m + 1) a xs = ([], a2, mst e3 (decide (k ≤ 5)) 10))) := by
  have hg : deckleref01_GetBytes.f 30 (l.drop ((a : Int)).toNat) 32 = some (gb (l.drop a) 32) := by rw [Int.toNat_natCast]; exact ScG.refGetBytes (l.drop a) (hb.drop a) (by rw [List.length_drop]; omega) 32 (by decide) 30 (by decide)
  have hf : ∀ q, gb (l.drop a) 32 = q → deckleref03_Reader_Bytes.f 30 l (a : Int) 0 32 = deckleref03_Reader_Bytes.g (a : Int) q := fun q hq => by
    unfold deckleref03_Reader_Bytes.f
    rw [if_pos ⟨by omega, by omega⟩, if_neg (not_not_intro rfl), hg, hq]; rfl
  by_cases he : be l a 32 ≠ 0
  · have h1 := hf _ (b_err he)
    unfold deckleref03_Reader_Bytes.g at h1
    dsimp only at h1
    rw [if_pos he] at h1
    refine ⟨[], a, be l a 32, h1, Nat.zero_le _, ha, 0, a, be l a 32, ?_, ha, ⟨by decide, by decide⟩, .inr ?_⟩
    · have : mst (be l a 32) (fine (nms xs) (strOfNums [])) 2 = be l a 32 := by unfold mst; rw [if_neg he]
      rw [this]
      unfold deckleref03_Reader_Byte.f
      rw [if_pos ⟨by omega, by omega⟩, if_pos he]
    · have : mst (be l a 32) (decide ((0 : Int) ≤ 5)) 10 = be l a 32 := by unfold mst; rw [if_neg he]
      rw [this]
      exact ⟨he, by rw [rgo, if_pos he]⟩
  have he0 := Decidable.not_not.1 he
  obtain ⟨eb, -, hbk, hbl, hbx0, hbx1, -⟩ := b_ok hb ha he0
  have h1 := hf _ eb
  unfold deckleref03_Reader_Bytes.g at h1
  dsimp only at h1
  rw [if_neg (not_not_intro rfl), if_pos ⟨by omega, by omega⟩] at h1
  obtain ⟨p, hp⟩ : ∃ p, bx l a 32 = p := ⟨_, rfl⟩
  obtain ⟨s, hs⟩ : ∃ s, strOfNums p = s := ⟨_, rfl⟩
  obtain ⟨a', ha'⟩ : ∃ a', a + bk l a 32 = a' := ⟨_, rfl⟩
  have hst := rgo_step (m := m) (xs := xs) (s := s) (by rw [hp]; exact hs) ha' rfl he0
  rw [hp, show (a : Int) + (bk l a 32 : Int) = (a' : Int) by omega] at h1
  rw [ha'] at hbk
  rw [hst]
  refine ⟨p, a', 0, h1, by rw [← hp]; omega, hbk, ?_⟩
  rw [hs]
  cases hfn : fine (nms xs) s
  · refine ⟨0, a', 2, ?_, hbk, ⟨by decide, by decide⟩, .inr ⟨by decide, by rw [if_pos rfl]; rfl⟩⟩
    show deckleref03_Reader_Byte.f l (a' : Int) 2 = _
    unfold deckleref03_Reader_Byte.f
    rw [if_pos ⟨by omega, by omega⟩, if_pos (by decide)]
  rw [if_neg (show ¬ (true = false) from Bool.noConfusion)]
  by_cases hlt : a' < l.length
  · rw [if_neg (not_not_intro hlt)]
    have hk := hb.rd_ a'
    obtain ⟨k, hkk⟩ : ∃ k, rd l (a' : Int) = k := ⟨_, rfl⟩
    refine ⟨k, a' + 1, 0, ?_, hlt, by rw [← hkk]; exact hk, ?_⟩
    · show deckleref03_Reader_Byte.f l (a' : Int) 0 = _
      unfold deckleref03_Reader_Byte.f
      rw [if_pos ⟨by omega, by omega⟩, if_neg (not_not_intro rfl), if_neg (by omega), hkk]; rfl
    · rw [hkk] at hk ⊢
      by_cases h6 : 0 ≤ k ∧ k < 6
      · have hd : decide (k ≤ 5) = true := decide_eq_true (by omega)
        rw [hd, if_neg (not_not_intro h6)]
        exact .inl ⟨rfl, rfl⟩
      · have hd : decide (k ≤ 5) = false := decide_eq_false (by omega)
        rw [hd, if_pos h6]
        exact .inr ⟨by decide, rfl⟩
  · rw [if_pos hlt]
    refine ⟨0, a', 5, ?_, hbk, ⟨by decide, by decide⟩, .inr ⟨by decide, rfl⟩⟩
    show deckleref03_Reader_Byte.f l (a' : Int) 0 = _
    unfold deckleref03_Reader_Byte.f
    rw [if_pos ⟨by omega, by omega⟩, if_neg (not_not_intro rfl), if_pos (by omega)]
set_option maxHeartbeats 16000000 in
theorem take_ref {w0 w : World} {g : Nat} {l : List Int} (hI : IsS60 w0 w g l 0 0) (hB : Below w0.heap.size w0 w) (hb : Bytes l) (hl : l.length ≤ 140737488351232) :
    Calls Tryd.prog 25 #[.pointer (some ⟨g, 0, none⟩)] w fun e w' => ∃ (v : Value) (xs : List Col) (a : Nat) (er : Int), e = .returned v ∧ Kd.R k53 53 w' w0.heap.size (fun k => k ≠ g) v xs ∧ IsS60 w0 w' g l (a : Int) er ∧ Below w0.heap.size w0 w' ∧ ((er = 0 ∧ rtk l = (xs, a, 0)) ∨ (er ≠ 0 ∧ rtk l = ([], a, er))) := by
  obtain ⟨X, a0, e0, hu, ⟨n, rfl, hn8⟩, ⟨an, rfl, han⟩, hcase⟩ := rUint_ hb hl
  rw [Int.toNat_natCast, Int.toNat_natCast] at hcase
  have HU := Aside0.mk (deckleref03_Reader_Uint.calls 30 g l 0 0 8 _ _ _ w0 w hI hB hu)
  obtain ⟨r, hr⟩ : ∃ r, rtk l = r := ⟨_, rfl⟩
  rw [hr] at hcase ⊢
  have HCS := Aside0.mk hcase
  have HBL := Aside0.mk (And.intro hb hl)
  have HN8 := Aside0.mk hn8
  have HAN := Aside0.mk han
  obtain ⟨X, hX⟩ : ∃ X, (n : Int) = X := ⟨_, rfl⟩
  have wn : wrap64 X = X := ScG.w64 (by omega) (by omega)
  have HX := Aside0.mk hX
  rw [hX] at HU HCS
  clear hI hB hb hl hu hr hcase hn8 han hX
  go_enter Tryd.func25, Tryd.ntmps25
  go_wp2_with fail
  refine HU.out.mono ?_
  rintro e w1 ⟨rfl, hI, hB, hk⟩
  have HM := Aside0.mk (deckleref03_Reader_Must.calls g l _ e0 (decide (0 < X)) 4 _ _ w0 w1 hI hB (must_f _ _ _ _ _))
  clear hI hB hk HU
  go_wp2_with fail
  rw [wn]
  clear wn
  refine HM.out.mono ?_
  rintro e w2 ⟨rfl, hI, hB, hk⟩
  have HI := Aside0.mk hI
  have HB := Aside0.mk hB
  clear hI hB hk HM
  obtain ⟨e1, he1⟩ : ∃ e1, mst e0 (decide (0 < X)) 4 = e1 := ⟨_, rfl⟩
  rw [he1] at HI HCS
  clear he1
  obtain rfl := HX.out
  clear HX
  go_wp2_with fail
  go_loopw [4, 5, 6, 7] (fun v i q1 q2 wr => ∃ (j a : Nat) (er : Int) (xs : List Col), j ≤ n ∧ i = .int .i64 (j : Int) ∧ Aside0 (xs.length = j) ∧ Aside0 (a ≤ l.length) ∧ Aside0 (Kd.R k53 53 wr w0.heap.size (fun k => k ≠ g) v xs) ∧ Aside0 (IsS60 w0 wr g l (a : Int) er) ∧ Aside0 (Below w0.heap.size w0 wr) ∧ Aside0 ((er = 0 ∧ rgo l (n - j) a xs = r) ∨ (er ≠ 0 ∧ r = ([], a, er)))) (fun _ i _ _ _ => n - (intOf i).toNat)
  case atStart => exact ⟨0, an, e1, [], by omega, rfl, ⟨rfl⟩, ⟨HAN.out⟩, ⟨Kd.R_nil _ _ _ _ _⟩, ⟨HI.out⟩, ⟨HB.out⟩, ⟨by rcases HCS.out with ⟨h1, h2⟩ | ⟨h1, h2, h3⟩; exact .inl ⟨h1, h2.symm⟩; exact .inr ⟨h1, h3⟩⟩⟩
  case round =>
    clear HI HB HCS
    obtain ⟨j, a, er, xs, hj, rfl, HXS, HAL, HO, HI, HB, HCS⟩ := hrel
    obtain ⟨B, d, rfl⟩ := Kd.R_slice HO.out
    obtain ⟨A0, c0, hblk, -, -⟩ := HI.out
    have c2 : wr.cell? ⟨g, 2, none⟩ = some (.int .i64 er) := (blk_cell hblk 2).trans rfl
    clear hblk
    by_cases hlt : j < n
    · have u1 : decide ((j : Int) < (n : Int)) = true := decide_eq_true (by omega)
      have u2 : decide (j < n) = true := decide_eq_true hlt
      by_cases he : er ≠ 0
      · have z1 : (er == 0) = false := beq_eq_false_iff_ne.2 he
        have hfin : (er ≠ 0 ∧ r = ([], a, er)) := by rcases HCS.out with ⟨h1, -⟩ | h; exact absurd h1 he; exact h
        have HF := Aside0.mk hfin
        clear hj hlt he hfin HCS
        go_wp2
        go_ret
        exact ⟨_, xs, a, er, rfl, HO.out, HI.out, HB.out, .inr HF.out⟩
      have he0 : er = 0 := Decidable.not_not.1 he
      subst he0
      have hc : rgo l (n - j) a xs = r := by rcases HCS.out with ⟨-, h⟩ | ⟨h, -⟩; exact h; exact absurd rfl h
      obtain ⟨m, hm⟩ : ∃ m, n - j = m + 1 := ⟨n - j - 1, by omega⟩
      rw [hm] at hc
      obtain ⟨p, a1, e1', hBy, hp, ha1, k, a2, e3, hB1, ha2, hk, hstep⟩ := round_ HBL.out.1 HBL.out.2 HAL.out m xs
      rw [hc] at hstep
      have HST := Aside0.mk hstep
      have HBS := Aside0.mk (deckleref03_Reader_Bytes.calls 30 g l _ _ 32 _ _ _ w0 wr HI.out HB.out hBy)
      have HB1 := Aside0.mk hB1
      have HP := Aside0.mk hp
      have HA2 := Aside0.mk ha2
      have HKR := Aside0.mk hk
      have HM := Aside0.mk hm
      have HLT := Aside0.mk hlt
      clear hj hlt he hc hm hBy hp ha1 hB1 ha2 hk hstep HCS HAL
      go_wp2_with fail
      refine HBS.out.mono ?_
      rintro e w3 ⟨v, rfl, hv, hI, hB, hkb⟩
      obtain ⟨A2, c3, rfl, -, hC⟩ := Kd.R_reads hv
      have HO3 := Aside0.mk (Kd.R_kept HO.out (keeps hkb) (fun k z => z))
      have HI3 := Aside0.mk hI
      have HB3 := Aside0.mk hB
      have kc := Kd.C_string (P := Tryd.prog) (A := A2) (c := c3) Tryd.underlying22 Tryd.underlying5 Tryd.underlying9 hC
      have hsz := nums_size p
      obtain ⟨s, hs⟩ : ∃ s, strOfNums p = s := ⟨_, rfl⟩
      rw [hs] at kc HB1 HST hsz
      have HSZ := Aside0.mk (show s.size ≤ 32 from by have := HP.out; omega)
      have HF := Aside0.mk (deckleref05_Fine.calls (s.size + xs.length + 2) s B d xs _ w3 (Kd.R_reads' HO3.out).2.2 (Kd.R_reads' HO3.out).2.1 (rfine s xs (by have := HXS.out; have := HN8.out; have := HLT.out; omega) (by have := HSZ.out; omega) _ (by omega)))
      obtain ⟨b, hb⟩ : ∃ b, fine (nms xs) s = b := ⟨_, rfl⟩
      rw [hb] at HB1 HF
      clear hv hI hB hkb hC HBS hs hsz hb c2 HI HB HO
      go_wp2_with fail
      refine HF.out.mono ?_
      rintro e w4 ⟨rfl, hd⟩
      have HO4 := Aside0.mk (Kd.R_below HO3.out hd.below)
      have HM4 := Aside0.mk (deckleref03_Reader_Must.calls g l _ _ b 2 _ _ w0 w4 (HI3.out.below hd.below) (below_step HB3.out hd.below) (must_f _ _ _ _ _))
      clear hd HF HI3 HB3 HO3 kc
      go_wp2_with fail
      refine HM4.out.mono ?_
      rintro e w5 ⟨rfl, hI, hB, hkb⟩
      have HO5 := Aside0.mk (Kd.R_kept HO4.out (keeps hkb) (fun k z => z))
      have HY := Aside0.mk (deckleref03_Reader_Byte.calls g l _ _ k _ _ w0 w5 hI hB HB1.out)
      clear hI hB hkb HM4 HO4 HB1
      go_wp2_with fail
      refine HY.out.mono ?_
      rintro e w6 ⟨rfl, hI, hB, hkb⟩
      have HO6 := Aside0.mk (Kd.R_kept HO5.out (keeps hkb) (fun k z => z))
      have HM6 := Aside0.mk (deckleref03_Reader_Must.calls g l _ _ (decide (k ≤ 5)) 10 _ _ w0 w6 hI hB (must_f _ _ _ _ _))
      obtain ⟨e4, he4⟩ : ∃ e4, mst e3 (decide (k ≤ 5)) 10 = e4 := ⟨_, rfl⟩
      rw [he4] at HM6 HST
      have wk : wrap64 k = k := ScG.w64 (by have := HKR.out; omega) (by have := HKR.out; omega)
      clear hI hB hkb HY HO5 he4
      go_wp2_with fail
      rw [wk]
      clear wk
      refine HM6.out.mono ?_
      rintro e w7 ⟨rfl, hI, hB, hkb⟩
      have HO7 := Aside0.mk (Kd.R_kept HO6.out (keeps hkb) (fun k z => z))
      have HI7 := Aside0.mk hI
      have HB7 := Aside0.mk hB
      clear hI hB hkb HM6 HO6
      dsimp only
      iterate 20 (first | go_step | skip)
      at_builtin
      refine Kd.R_append k53 (w0 := w0) w0.heap.size rfl (.tmp 42) (.tmp 46) 24 53 (.agg #[.string ⟨#[]⟩, .int .i64 0]) 24 rfl Tryd.underlying24 infoC rfl (by decide) (by decide) _ xs ⟨s, k⟩ [.string s, .int .i64 k] (fun k => k ≠ g) (fun _ => False) rfl rfl (k53_mkM _ _ _ _) (fun _ h => h.elim) (fun q hq => by have := HI7.out.lt; omega) HO7.out HB7.out HB7.out.size ?aL ?_
      case aL => have := HXS.out; have := HLT.out; have := HN8.out; omega
      intro v1 w9 ho hb hg hat
      have HO9 := Aside0.mk ho
      have HB9 := Aside0.mk hb
      have HI9 := Aside0.mk (HI7.out.grown hg (HI7.out.own_ne HO7.out (by decide)))
      clear ho hb hg hat HO7 HI7 HB7
      have hmax : (j : Int) + 1 ≤ 9223372036854775807 := by have := HLT.out; have := HN8.out; omega
      go_wp2_with fail
      go_roundw
      case rel => exact ⟨j + 1, a2, e4, xs ++ [⟨s, k⟩], HLT.out, by go_num, ⟨by rw [List.length_append, HXS.out]; rfl⟩, ⟨HA2.out⟩, ⟨HO9.out⟩, ⟨HI9.out⟩, ⟨HB9.out⟩, ⟨by rw [show n - (j + 1) = m from by have := HM.out; omega]; rcases HST.out with ⟨h1, h2⟩ | h; exact .inl ⟨h1, h2.symm⟩; exact .inr h⟩⟩
      case measure => have := HLT.out; simp [intOf]; omega
    · have u1 : decide ((j : Int) < (n : Int)) = false := decide_eq_false (by omega)
      have u2 : decide (j < n) = false := decide_eq_false hlt
      have hfin : (er = 0 ∧ r = (xs, a, 0)) ∨ (er ≠ 0 ∧ r = ([], a, er)) := by
        rcases HCS.out with ⟨h1, h2⟩ | h
        · rw [show n - j = 0 by omega, rgo] at h2; exact .inl ⟨h1, h2.symm⟩
        · exact .inr h
      have HF := Aside0.mk hfin
      clear hj hlt hfin HCS
      go_wp2
      go_ret
      exact ⟨_, xs, a, er, rfl, HO.out, HI.out, HB.out, HF.out⟩
/-- The document's Done: the place, and why. -/
def dn (l : List Int) (a : Nat) (er : Int) : Int := if er = 0 then (if a < l.length then 7 else 0) else er
theorem done_f (l : List Int) (a : Nat) (er : Int) : deckleref03_Reader_Done.f l (a : Int) er = some ((a : Int), dn l a er, (a : Int), er) := by
  unfold deckleref03_Reader_Done.f dn
  by_cases h : er = 0
  · rw [if_pos h, if_pos h]
    by_cases h2 : a < l.length
    · rw [if_pos (by omega), if_pos h2]
    · rw [if_neg (by omega), if_neg h2, h]
  · rw [if_neg h, if_neg h]
set_option maxHeartbeats 16000000 in
theorem rread_calls {A : Option Addr} {c : Nat} {l : List Int} (w : World) (hr : (Kd.int .u8).C w A l.length l) (hc : l.length ≤ c) (hb : Bytes l) (hl : l.length ≤ 140737488351232) :
    Calls Tryd.prog 8 #[.slice A l.length c] w fun e w' => ∃ v, e = .returned (.tuple #[v, .int .i64 ((rtk l).2.1 : Int), .int .i64 (rdErr l)]) ∧ Kd.R k53 53 w' w.heap.size (fun _ => True) v (rdCols l) ∧ Below w.heap.size w w' := by
  have HN := Aside0.mk (IsS60.new w w A c l 0 0 (Below.refl _ _) hc hr)
  have HBA := Aside0.mk (below_alloc (Below.refl w.heap.size w) (.cells #[.slice A l.length c, .int .i64 0, .int .i64 0] 60))
  have HT := Aside0.mk (take_ref HN.out HBA.out hb hl)
  obtain ⟨r, hrr⟩ : ∃ r, rtk l = r := ⟨_, rfl⟩
  unfold rdCols rdErr
  rw [hrr] at HT ⊢
  obtain ⟨F, hF⟩ : ∃ F, (if r.2.2 = 0 then (if r.2.1 < l.length then (7 : Int) else 0) else r.2.2) = F := ⟨_, rfl⟩
  rw [hF]
  obtain ⟨C, hC⟩ : ∃ C, (if F = 0 then r.1 else []) = C := ⟨_, rfl⟩
  rw [hC]
  obtain ⟨q, hq⟩ : ∃ q, r.2.1 = q := ⟨_, rfl⟩
  rw [hq]
  have HF := Aside0.mk hF
  have HC := Aside0.mk hC
  have HQ := Aside0.mk hq
  clear hr hc hb hl hrr hF hC hq
  go_enter Tryd.func8, Tryd.ntmps8
  go_wp2_with fail
  refine HT.out.mono ?_
  rintro e w2 ⟨v, xs, a, er, rfl, hR, hI, hB, hcase⟩
  have HD := Aside0.mk (deckleref03_Reader_Done.calls w.heap.size l _ er _ _ _ _ w w2 hI hB (done_f l a er))
  have HR := Aside0.mk hR
  have HE := Aside0.mk (show (if r.2.2 = 0 then (if r.2.1 < l.length then (7 : Int) else 0) else r.2.2) = dn l a er ∧ r.2.1 = a ∧ (dn l a er = 0 → r.1 = xs) from by
    unfold dn
    rcases hcase with ⟨h1, h2⟩ | ⟨h1, h2⟩
    · rw [h2, if_pos rfl, if_pos h1]; exact ⟨rfl, rfl, fun _ => rfl⟩
    · rw [h2, if_neg h1]; exact ⟨rfl, rfl, fun z => absurd z h1⟩)
  rw [← HE.out.1, HF.out] at HD
  obtain rfl : q = a := HQ.out.symm.trans HE.out.2.1
  have HX := Aside0.mk (show F = 0 → C = xs from fun z => by rw [← HC.out, if_pos z]; exact HE.out.2.2 (by rw [← HE.out.1, HF.out]; exact z))
  have HX2 := Aside0.mk (show F ≠ 0 → C = [] from fun z => by rw [← HC.out, if_neg z])
  clear hR hI hB hcase HT HN HBA HE HF HC HQ
  go_wp2_with fail
  refine HD.out.mono ?_
  rintro e w3 ⟨rfl, -, hB, hk⟩
  have HR3 := Aside0.mk (Kd.R_mono (ok' := fun _ => True) (Kd.R_kept HR.out (keeps hk) (fun k z => z)) (fun _ _ => trivial))
  have HB3 := Aside0.mk hB
  clear hB hk HR HD
  by_cases h0 : F = 0
  · subst h0
    obtain rfl := HX.out rfl
    clear HX HX2
    go_wp2
    go_ret3
    exact ⟨_, rfl, HR3.out, HB3.out⟩
  · have v1 : (F != 0) = true := bne_iff_ne.mpr h0
    obtain rfl := HX2.out h0
    clear h0 HX HX2
    go_wp2
    go_ret3
    exact ⟨.slice none 0 0, rfl, Kd.R_nil _ _ _ _ _, HB3.out⟩
end Go.Proofs.YtciolchdihlgfaaDoor.Sc
/-! SchemaReads: the call. -/
namespace Go.Proofs.YtciolchdihlgfaaDoor.Sc
open Go.RowKit Go.Proofs.YtciolchdihlgfaaDoorW.PrintWords Go.Proofs.YtciolchdihlgfaaDoorW.PrintLast Go.Proofs.YtciolchdihlgfaaDoorW.PrintMore Go.Proofs.YtciolchdihlgfaaDoor.Wire Go.Proofs.YtciolchdihlgfaaDoor.PSc Go.Proofs.YtciolchdihlgfaaDoor.Co Go.Proofs.YtciolchdihlgfaaDoor.Ce Go.Proofs.YtciolchdihlgfaaDoor.Rd
set_option linter.unusedVariables false
set_option linter.unusedSimpArgs false
set_option maxRecDepth 100000
theorem eqs_self (l : List Col) : eqs l l = true := (eqs_iff l l).2 rfl
set_option maxHeartbeats 32000000 in
theorem reads_calls {A : Option Addr} {c : Nat} {l : List Int} (t : ByteArray) (w : World) (hN : NamesW w) (hM : MaxW w) (hr : (Kd.int .u8).C w A l.length l) (hc : l.length ≤ c) (hb : Bytes l) (hl : l.length ≤ 140737488351232) :
    Calls Tryd.prog 3 #[.slice A l.length c, .string t] w fun e w' => e = .returned (.bool true) ∧ Below w.heap.size w w' := by
  have HAL := Aside0.mk (fun (W : World) (hb : Below w.heap.size w W) => alive_calls W (hN.below hb) (hM.below hb))
  have HRD := Aside0.mk (fun (W : World) (hb' : Below w.heap.size w W) => sread_calls (c := c) W (hN.below hb') (Kd.C_below hr hb') hc hb hl)
  have HRR := Aside0.mk (fun (W : World) (hb' : Below w.heap.size w W) => rread_calls (c := c) W (Kd.C_below hr hb') hc hb hl)
  have HPA := Aside0.mk (fun (ht : t.size ≤ 1000000) (W : World) (hb' : Below w.heap.size w W) => parse_calls t ht W (hN.below hb') (hM.below hb'))
  have HPR := Aside0.mk (fun (ht : t.size ≤ 1000000) (W : World) => rparse_calls t ht W)
  have HSM := Aside0.mk (fun (m : List Col) (A1 A2 : Option Addr) (c1 c2 : Nat) (W : World) (h1 : Kd.C k53 W A1 m.length m) (g1 : m.length ≤ c1) (h2 : Kd.C k53 W A2 m.length m) (g2 : m.length ≤ c2) (hm : m.length ≤ 9223372036854775806) => by
    have := rsame_calls (c := c1) (c' := c2) W h1 g1 h2 g2 hm
    rw [eqs_self] at this
    exact this)
  obtain ⟨n, hn⟩ : ∃ n, l.length = n := ⟨_, rfl⟩
  rw [hn] at HRD HRR ⊢
  have HCL := Aside0.mk (show (rdCols l).length ≤ 8 from by
    unfold rdCols
    split
    · rename_i h0
      have h1 : (rtk l).2.2 = 0 ∧ (rtk l).2.1 = l.length := by
        have hle := rtk_le hb
        unfold rdErr at h0
        split at h0
        · rename_i h2
          split at h0
          · omega
          · exact ⟨h2, by omega⟩
        · rename_i h2; exact absurd h0 h2
      exact (sck_small (rtk_ok hb h1.1 h1.2).1).1.2
    · exact Nat.zero_le _)
  have HPL := Aside0.mk (show (prs t).1.length ≤ 8 from by
    by_cases h0 : (prs t).2 = 0
    · exact (sck_small (txt_prs h0).2).1.2
    · rw [prs_no h0]; exact Nat.zero_le _)
  obtain ⟨C, hC⟩ : ∃ C, rdCols l = C := ⟨_, rfl⟩
  obtain ⟨E, hE⟩ : ∃ E, rdErr l = E := ⟨_, rfl⟩
  obtain ⟨a, ha⟩ : ∃ a, (rtk l).2.1 = a := ⟨_, rfl⟩
  obtain ⟨D, hD⟩ : ∃ D, (prs t).1 = D := ⟨_, rfl⟩
  obtain ⟨F, hF⟩ : ∃ F, (prs t).2 = F := ⟨_, rfl⟩
  rw [hC] at HRD HRR HCL
  rw [hE, ha] at HRD HRR
  rw [hD] at HPA HPR HPL
  rw [hF] at HPA HPR
  clear hN hM hr hc hb hl hn hC hE ha hD hF
  go_enter Tryd.func3, Tryd.ntmps3
  go_wp2_with fail
  refine (HAL.out _ (Below.refl _ _)).mono ?_
  rintro e w1 ⟨rfl, hb⟩
  have HB := Aside0.mk hb
  clear hb
  by_cases h1 : 2000 < n
  · have u1 : decide ((2000 : Int) < (n : Int)) = true := decide_eq_true (by omega)
    have u2 : decide (2000 < n) = true := decide_eq_true h1
    clear h1
    go_wp2_with fail
    refine (HAL.out _ HB.out).mono ?_
    rintro e wq ⟨rfl, hq⟩
    have hfin := below_step HB.out hq
    clear hq
    go_wp2_with fail
    go_ret
    exact ⟨rfl, hfin⟩
  have u1 : decide ((2000 : Int) < (n : Int)) = false := decide_eq_false (by omega)
  have u2 : decide (2000 < n) = false := decide_eq_false h1
  by_cases h2 : 2000 < t.size
  · have u3 : decide ((2000 : Int) < (t.size : Int)) = true := decide_eq_true (by omega)
    have u4 : decide (2000 < t.size) = true := decide_eq_true h2
    clear h1 h2
    go_wp2_with fail
    refine (HAL.out _ HB.out).mono ?_
    rintro e wq ⟨rfl, hq⟩
    have hfin := below_step HB.out hq
    clear hq
    go_wp2_with fail
    go_ret
    exact ⟨rfl, hfin⟩
  have u3 : decide ((2000 : Int) < (t.size : Int)) = false := decide_eq_false (by omega)
  have u4 : decide (2000 < t.size) = false := decide_eq_false h2
  have HPA1 := Aside0.mk (HPA.out (by omega))
  have HPR1 := Aside0.mk (HPR.out (by omega))
  clear h1 h2 HPA HPR
  go_wp2_with fail
  refine (HRD.out _ HB.out).mono ?_
  rintro e w2 ⟨v2, rfl, hv, hb⟩
  obtain ⟨A2, c2, rfl, hc2, hC2⟩ := Kd.R_reads hv
  have HC2 := Aside0.mk hC2
  have HL2 := Aside0.mk hc2
  replace HB := Aside0.mk (below_step HB.out hb)
  clear hv hb hc2 hC2 HRD
  go_wp2_with fail
  refine (HRR.out _ HB.out).mono ?_
  rintro e w3 ⟨v3, rfl, hv, hb⟩
  obtain ⟨A3, c3, rfl, hc3, hC3⟩ := Kd.R_reads hv
  have HC3 := Aside0.mk hC3
  have HL3 := Aside0.mk hc3
  replace HC2 := Aside0.mk (Kd.C_below HC2.out hb)
  replace HB := Aside0.mk (below_step HB.out hb)
  clear hv hb hc3 hC3 HRR
  go_wp2_with fail
  refine (HPA1.out _ HB.out).mono ?_
  rintro e w4 ⟨v4, rfl, hv, hb⟩
  obtain ⟨A4, c4, rfl, hc4, hC4⟩ := Kd.R_reads hv
  have HC4 := Aside0.mk hC4
  have HL4 := Aside0.mk hc4
  replace HC2 := Aside0.mk (Kd.C_below HC2.out hb)
  replace HC3 := Aside0.mk (Kd.C_below HC3.out hb)
  replace HB := Aside0.mk (below_step HB.out hb)
  clear hv hb hc4 hC4 HPA1
  go_wp2_with fail
  refine (HPR1.out _).mono ?_
  rintro e w5 ⟨v5, rfl, hv, hb⟩
  obtain ⟨A5, c5, rfl, hc5, hC5⟩ := Kd.R_reads hv
  have HC5 := Aside0.mk hC5
  have HL5 := Aside0.mk hc5
  replace HC2 := Aside0.mk (Kd.C_below HC2.out hb)
  replace HC3 := Aside0.mk (Kd.C_below HC3.out hb)
  replace HC4 := Aside0.mk (Kd.C_below HC4.out hb)
  replace HB := Aside0.mk (below_step HB.out hb)
  clear hv hb hc5 hC5 HPR1
  go_wp2_with fail
  refine (HSM.out C A2 A3 c2 c3 _ HC2.out HL2.out HC3.out HL3.out (by have := HCL.out; omega)).mono ?_
  rintro e w6 ⟨rfl, hb⟩
  replace HC4 := Aside0.mk (Kd.C_below HC4.out hb)
  replace HC5 := Aside0.mk (Kd.C_below HC5.out hb)
  replace HB := Aside0.mk (below_step HB.out hb)
  clear hb HC2 HC3
  go_wp2_with fail
  refine (HSM.out D A4 A5 c4 c5 _ HC4.out HL4.out HC5.out HL5.out (by have := HPL.out; omega)).mono ?_
  rintro e w7 ⟨rfl, hb⟩
  have hfin := below_step HB.out hb
  clear hb
  go_wp2_with fail
  go_ret
  exact ⟨by first | rfl | (simp; done), hfin⟩
end Go.Proofs.YtciolchdihlgfaaDoor.Sc
