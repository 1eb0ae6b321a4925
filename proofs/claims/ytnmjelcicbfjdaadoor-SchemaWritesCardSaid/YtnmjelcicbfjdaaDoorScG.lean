import Derived.Test.YtnmjelcicbfjdaaDoorScAF
/-! SchemaPrints: the plain law. -/
namespace Go.Proofs.YtnmjelcicbfjdaaDoor.Sc
open Go.RowKit Go.Proofs.YtnmjelcicbfjdaaDoorW.PrintWords Go.Proofs.YtnmjelcicbfjdaaDoorW.PrintLast Go.Proofs.YtnmjelcicbfjdaaDoorW.PrintMore Go.Proofs.YtnmjelcicbfjdaaDoor.Wire Go.Proofs.YtnmjelcicbfjdaaDoor.PSc Go.Proofs.YtnmjelcicbfjdaaDoor.Co Go.Proofs.YtnmjelcicbfjdaaDoor.Ce
set_option linter.unusedVariables false
set_option linter.unusedSimpArgs false
set_option maxRecDepth 100000
/-- A column that may be, by itself. -/
def ok1 (c : Col) : Prop := c.f0.size ≤ 32 ∧ c.f0.size ≠ 0 ∧ lts c.f0 = true ∧ (0 ≤ c.f1 ∧ c.f1 < 6)
theorem scan_iff : ∀ (l : List Col) (ks : List ByteArray), scan ks l = 0 ↔ (∀ c ∈ l, ok1 c) ∧ (l.map (·.f0)).Nodup ∧ ∀ c ∈ l, c.f0 ∉ ks
  | [], ks => by simp [scan]
  | a :: r, ks => by
    have ih := scan_iff r (a.f0 :: ks)
    rw [scan]
    have hfine : fine ks a.f0 = true ↔ a.f0.size ≠ 0 ∧ lts a.f0 = true ∧ a.f0 ∉ ks := by
      unfold fine
      rw [Bool.and_eq_true, Bool.and_eq_true, decide_eq_true_eq, Bool.not_eq_true', and_assoc]
      have : has ks a.f0 = false ↔ a.f0 ∉ ks := by
        rw [← has_iff]; cases has ks a.f0 <;> simp
      rw [this]
    simp only [List.map_cons, List.nodup_cons, List.mem_cons, forall_eq_or_imp]
    by_cases h1 : 32 < a.f0.size
    · rw [if_pos h1]
      constructor
      · intro h; omega
      · rintro ⟨⟨h, -⟩, -⟩; exact absurd h.1 (by omega)
    rw [if_neg h1]
    by_cases h2 : fine ks a.f0 = false
    · rw [if_pos h2]
      constructor
      · intro h; omega
      · rintro ⟨⟨h, -⟩, -, h3, -⟩
        have := hfine.2 ⟨h.2.1, h.2.2.1, h3⟩
        rw [h2] at this; exact absurd this Bool.false_ne_true
    rw [if_neg h2]
    have hf := hfine.1 (by cases hh : fine ks a.f0 <;> simp_all)
    by_cases h3 : ¬(0 ≤ a.f1 ∧ a.f1 < 6)
    · rw [if_pos h3]
      constructor
      · intro h; omega
      · rintro ⟨⟨h, -⟩, -⟩; exact absurd h.2.2.2 h3
    rw [if_neg h3, ih]
    have h3' := Decidable.not_not.1 h3
    constructor
    · rintro ⟨g1, g2, g3⟩
      refine ⟨⟨⟨by omega, hf.1, hf.2.1, h3'⟩, g1⟩, ⟨fun hm => ?_, g2⟩, hf.2.2, fun c hc hk => g3 c hc (List.mem_cons_of_mem _ hk)⟩
      obtain ⟨c, hc, e⟩ := List.mem_map.1 hm
      exact g3 c hc (by rw [e]; exact List.mem_cons_self ..)
    · rintro ⟨⟨-, g1⟩, ⟨g2, g3⟩, -, g4⟩
      refine ⟨g1, g3, fun c hc hk => ?_⟩
      rcases List.mem_cons.1 hk with e | hk
      · exact g2 (List.mem_map.2 ⟨c, hc, e⟩)
      · exact g4 c hc hk
theorem sck_iff (l : List Col) : sck l = 0 ↔ (0 < l.length ∧ l.length ≤ 8) ∧ (∀ c ∈ l, ok1 c) ∧ (l.map (·.f0)).Nodup := by
  unfold sck
  by_cases h1 : l.length = 0
  · rw [if_pos h1]
    constructor
    · intro h; omega
    · rintro ⟨⟨h, -⟩, -⟩; omega
  rw [if_neg h1]
  by_cases h2 : 8 < l.length
  · rw [if_pos h2]
    constructor
    · intro h; omega
    · rintro ⟨⟨-, h⟩, -⟩; omega
  rw [if_neg h2, scan_iff]
  simp only [List.not_mem_nil, not_false_eq_true, implies_true, and_true]
  exact ⟨fun h => ⟨by omega, h⟩, fun h => h.2⟩
theorem str_bytes_ (s : ByteArray) : strOfNums (bytesOf s) = s := by
  refine ByteArray.ext (Array.toList_inj.1 ?_)
  rw [strOfNums_data]
  unfold bytesOf
  rw [List.map_map]
  refine (List.map_congr_left (g := id) fun x _ => ?_).trans (List.map_id _)
  show UInt8.ofNat ((x.toNat : Int).toNat) = x
  rw [Int.toNat_natCast]
  exact UInt8.ofNat_toNat
theorem bytesOf_inj {s t : ByteArray} (h : bytesOf s = bytesOf t) : s = t := by
  have e1 := str_bytes_ s
  have e2 := str_bytes_ t
  rw [h] at e1
  exact e1.symm.trans e2
theorem wcol_inj {c d : Col} {r r' : List Int} (hc : ok1 c) (hd : ok1 d) (h : wcol c ++ r = wcol d ++ r') : c = d ∧ r = r' := by
  unfold wcol at h
  rw [uv_small (by have := hc.1; omega), uv_small (by have := hd.1; omega)] at h
  simp only [List.append_assoc, List.cons_append, List.nil_append] at h
  injection h with h1 h2
  have hs : c.f0.size = d.f0.size := by omega
  have hl := List.append_inj h2 (by rw [bytesOf_length, bytesOf_length, hs])
  obtain ⟨h3, h4⟩ := hl
  injection h4 with h5 h6
  have e : c.f0 = d.f0 := bytesOf_inj h3
  have k : c.f1 = d.f1 := by have := hc.2.2.2; have := hd.2.2.2; omega
  obtain ⟨a, b⟩ := c
  obtain ⟨a', b'⟩ := d
  simp only at e k
  rw [e, k]
  exact ⟨rfl, h6⟩
theorem wcs_inj : ∀ l m : List Col, (∀ c ∈ l, ok1 c) → (∀ c ∈ m, ok1 c) → wcs l = wcs m → l = m
  | [], [], _, _, _ => rfl
  | [], d :: m, _, hm, h => by
    unfold wcs wcol at h
    rw [List.flatMap_cons, List.flatMap_nil] at h
    have := congrArg List.length h
    simp at this
  | c :: l, [], _, _, h => by
    unfold wcs wcol at h
    rw [List.flatMap_cons, List.flatMap_nil] at h
    have := congrArg List.length h
    simp at this
  | c :: l, d :: m, hl, hm, h => by
    have h' : wcol c ++ wcs l = wcol d ++ wcs m := by unfold wcs at h ⊢; rw [List.flatMap_cons, List.flatMap_cons] at h; exact h
    obtain ⟨e, r⟩ := wcol_inj (hl c (List.mem_cons_self ..)) (hm d (List.mem_cons_self ..)) h'
    rw [e, wcs_inj l m (fun x hx => hl x (List.mem_cons_of_mem _ hx)) (fun x hx => hm x (List.mem_cons_of_mem _ hx)) r]
theorem wS_inj {l m : List Col} (hl : sck l = 0) (hm : sck m = 0) (h : wS l = wS m) : l = m := by
  obtain ⟨a1, a2, -⟩ := (sck_iff l).1 hl
  obtain ⟨b1, b2, -⟩ := (sck_iff m).1 hm
  unfold wS at h
  rw [uv_small (by omega), uv_small (by omega)] at h
  injection h with h1 h2
  exact wcs_inj l m a2 b2 h2
theorem str_inj {a b : List Int} (ha : Bytes a) (hb : Bytes b) (h : strOfNums a = strOfNums b) : a = b := by
  have e : ∀ l : List Int, Bytes l → bytesOf (strOfNums l) = l := fun l hl => by
    unfold bytesOf
    rw [strOfNums_data, List.map_map]
    conv => rhs; rw [← List.map_id l]
    refine List.map_congr_left fun x hx => ?_
    have := hl x hx
    simp only [Function.comp, id]
    rw [UInt8.toNat_ofNat']
    omega
  rw [← e a ha, ← e b hb, h]
theorem rd_get {l : List Col} {j : Nat} (h : j < l.length) : rd_T54 l (j : Int) = l[j] := by
  unfold rd_T54
  rw [Int.toNat_natCast, List.getD_eq_getElem?_getD, List.getElem?_eq_getElem h]; rfl
/-- One column's kind turned. -/
def turn (l : List Col) (i : Nat) : List Col := l.set i ⟨(rd_T54 l (i : Int)).f0, ((rd_T54 l (i : Int)).f1 + 1) % 6⟩
/-- Two columns in the other order. -/
def swap (l : List Col) (i : Nat) : List Col := (l.set 0 (rd_T54 l (i : Int))).set i (rd_T54 l 0)
theorem turn_names {l : List Col} {i : Nat} (h : i < l.length) : (turn l i).map (·.f0) = l.map (·.f0) := by
  unfold turn
  rw [List.map_set, rd_get h]
  apply List.ext_getElem
  · simp
  · intro j h1 h2
    rw [List.getElem_set]
    split
    · rename_i e; subst e; simp
    · rfl
theorem turn_ok {l : List Col} {i : Nat} (hl : sck l = 0) (h : i < l.length) : sck (turn l i) = 0 := by
  obtain ⟨a1, a2, a3⟩ := (sck_iff l).1 hl
  refine (sck_iff _).2 ⟨by unfold turn; rw [List.length_set]; exact a1, fun c hc => ?_, by rw [turn_names h]; exact a3⟩
  unfold turn at hc
  rcases List.mem_or_eq_of_mem_set hc with hc | rfl
  · exact a2 c hc
  · have := a2 _ (rd_mem h)
    exact ⟨this.1, this.2.1, this.2.2.1, by have := this.2.2.2; simp only; omega⟩
theorem turn_ne {l : List Col} {i : Nat} (hl : sck l = 0) (h : i < l.length) : l ≠ turn l i := by
  intro e
  obtain ⟨a1, a2, a3⟩ := (sck_iff l).1 hl
  have h1 := (a2 _ (rd_mem h)).2.2.2
  have e2 : rd_T54 l (i : Int) = ⟨(rd_T54 l (i : Int)).f0, ((rd_T54 l (i : Int)).f1 + 1) % 6⟩ := by
    have e3 : l[i]? = (turn l i)[i]? := by rw [← e]
    unfold turn at e3
    rw [List.getElem?_set_self h, List.getElem?_eq_getElem h, ← rd_get h] at e3
    exact Option.some.inj e3
  have e4 := congrArg (·.f1) e2
  simp only at e4
  omega
theorem swap_get {l : List Col} {i : Nat} (h : i < l.length) (h0 : 0 < l.length) {j : Nat} (hj : j < l.length) : (swap l i)[j]? = some (l[if j = i then 0 else if j = 0 then i else j]'(by split; exact h0; split; exact h; exact hj)) := by
  unfold swap
  rw [show (0 : Int) = ((0 : Nat) : Int) from rfl, rd_get h, rd_get h0]
  by_cases e : j = i
  · subst e
    rw [List.getElem?_set_self (by rw [List.length_set]; exact hj)]
    simp
  · rw [List.getElem?_set_ne (fun x => e x.symm)]
    by_cases e0 : j = 0
    · subst e0
      rw [List.getElem?_set_self hj]
      simp [e]
    · rw [List.getElem?_set_ne (fun x => e0 x.symm), List.getElem?_eq_getElem hj]
      simp [e, e0]
theorem swap_len (l : List Col) (i : Nat) : (swap l i).length = l.length := by unfold swap; rw [List.length_set, List.length_set]
theorem swap_ok {l : List Col} {i : Nat} (hl : sck l = 0) (h : i < l.length) : sck (swap l i) = 0 := by
  obtain ⟨a1, a2, a3⟩ := (sck_iff l).1 hl
  refine (sck_iff _).2 ⟨by rw [swap_len]; exact a1, fun c hc => ?_, ?_⟩
  · unfold swap at hc
    rcases List.mem_or_eq_of_mem_set hc with hc | rfl
    · rcases List.mem_or_eq_of_mem_set hc with hc | rfl
      · exact a2 c hc
      · exact a2 _ (rd_mem h)
    · exact a2 _ (by have := rd_mem (l := l) (j := 0) a1.1; exact this)
  · rw [List.Nodup, List.pairwise_iff_getElem] at a3 ⊢
    intro p q hp hq hpq
    simp only [List.length_map] at hp hq
    rw [swap_len] at hp hq
    have key : ∀ {r : Nat} (hr : r < l.length), ((swap l i).map (·.f0))[r]'(by rw [List.length_map, swap_len]; exact hr) = (l[if r = i then 0 else if r = 0 then i else r]'(by split; exact a1.1; split; exact h; exact hr)).f0 := fun {r} hr => by
      have := swap_get h a1.1 hr
      rw [List.getElem_map]
      rw [List.getElem?_eq_getElem (by rw [swap_len]; exact hr)] at this
      rw [Option.some.inj this]
    rw [key hp, key hq]
    have ne : ∀ (x y : Nat) (hx : x < l.length) (hy : y < l.length), x ≠ y → (l[x]).f0 ≠ (l[y]).f0 := fun x y hx hy hne => by
      rcases Nat.lt_or_gt_of_ne hne with c | c
      · have := a3 x y (by simpa using hx) (by simpa using hy) c
        simpa using this
      · have := a3 y x (by simpa using hy) (by simpa using hx) c
        exact fun e => this (by simpa using e.symm)
    exact ne _ _ _ _ (by (repeat' split) <;> omega)
theorem swap_eq {l : List Col} {i : Nat} (hl : sck l = 0) (h : i < l.length) : l = swap l i ↔ i = 0 := by
  obtain ⟨a1, a2, a3⟩ := (sck_iff l).1 hl
  constructor
  · intro e
    refine Decidable.byContradiction fun hi => ?_
    have h1 : l[0]? = (swap l i)[0]? := by rw [← e]
    rw [swap_get h a1.1 a1.1, List.getElem?_eq_getElem a1.1] at h1
    have h2 := Option.some.inj h1
    simp only [show ¬ (0 = i) from fun x => hi x.symm, if_false, if_true] at h2
    rw [List.Nodup, List.pairwise_iff_getElem] at a3
    have := a3 0 i (by simpa using a1.1) (by simpa using h) (by omega)
    exact this (by simp [h2])
  · rintro rfl
    unfold swap
    rw [show ((0 : Nat) : Int) = 0 from rfl, List.set_set]
    apply List.ext_getElem
    · simp
    · intro j h1 h2
      rw [List.getElem_set]
      split
      · rename_i e; subst e
        have := rd_get a1.1
        rw [show ((0 : Nat) : Int) = 0 from rfl] at this
        exact this.symm
      · rfl
end Go.Proofs.YtnmjelcicbfjdaaDoor.Sc
