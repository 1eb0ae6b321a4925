import Derived.Test.YtciolchdihlgfaaGreatDoorRowA
import Derived.Test.YtciolchdihlgfaaGreatDoorWMore
import Derived.Deep.Slices
import Derived.SizedLaws
/-! Arguments of any depth, opened as the print's kinds read them; with their weights. -/
namespace Go.Proofs.YtciolchdihlgfaaGreatDoor.RowW
open Go.ChangeShapes Go.WideShapes Go.ChangeAt Go.RowKit Go.Deep Go.Proofs.YtciolchdihlgfaaGreatDoorW.PrintWords
set_option linter.unusedVariables false
set_option linter.unusedSimpArgs false
variable {P : Program} {W : World} {α β : Type}
def Light {H : Type} (P : Program) (t : TypeId) (D : DataW H) : Prop := ∀ z ∈ D.weights P t, z ≤ reachBytes
def Opens (P : Program) (W : World) (d : Kd α) (t : TypeId) (wf : α → Prop) : Prop :=
  ∀ (H : Type) (enc : TypeId × Value → H) (fuel : Nat) (cs : List Value) (D : DataW H) (pl : List MemPlace), DataW.trod enc P W 0 (fun _ => true) true fuel t cs = some (D, pl) → Light P t D → ∃ a : α, d.K W a cs ∧ wf a
theorem opens_int {t : TypeId} {k : IntKind} (ht : P.underlying t = some (.int k)) : Opens P W (Kd.int k) t (fun z => (Lit.int k z).wf = true) := by
  intro H enc fuel cs D pl h _
  obtain ⟨n, rfl, e, w⟩ := DataW.trod_int ht h
  exact ⟨n, rfl, w⟩
theorem opens_bool {t : TypeId} (ht : P.underlying t = some .bool) : Opens P W Kd.bool t (fun _ => True) := by
  intro H enc fuel cs D pl h _
  obtain ⟨n, rfl, e⟩ := DataW.trod_bool ht h
  exact ⟨n, rfl, trivial⟩
theorem opens_string {t : TypeId} (ht : P.underlying t = some .string) : Opens P W Kd.string t (fun s => s.size ≤ reachBytes) := by
  intro H enc fuel cs D pl h hz
  obtain ⟨n, rfl, e, w⟩ := DataW.trod_string ht h
  cases e
  exact ⟨n, rfl, by have := hz n.data.toList.length (by simp [DataW.weights]); rwa [Array.length_toList] at this⟩
theorem choose_list {Q : Nat → α → Prop} (n : Nat) (h : ∀ i, i < n → ∃ a, Q i a) : ∃ xs : List α, xs.length = n ∧ ∀ i a, xs[i]? = some a → Q i a := by
  induction n with
  | zero => exact ⟨[], rfl, fun i a z => by simp at z⟩
  | succ n ih =>
    obtain ⟨xs, hl, hx⟩ := ih fun i hi => h i (by omega)
    obtain ⟨a, ha⟩ := h n (by omega)
    refine ⟨xs ++ [a], by simp [hl], fun i b hb => ?_⟩
    by_cases hi : i < n
    · rw [List.getElem?_append_left (by omega)] at hb
      exact hx i b hb
    · have hlt := (List.getElem?_eq_some_iff.1 hb).1
      have : i = n := by simp [hl] at hlt; omega
      subst this
      rw [List.getElem?_append_right (by omega), hl, Nat.sub_self] at hb
      simp at hb
      subst hb
      exact ha
theorem all_mem {H : Type} {e : TypeId} {l : List (DataW H)} {D : DataW H} (h : D ∈ l) : ∀ z ∈ D.weights P e, z ∈ DataW.weightsAll P e l := by
  induction l with
  | nil => cases h
  | cons a t ih =>
    intro z hz
    rw [DataW.weightsAll, List.mem_append]
    rcases List.mem_cons.1 h with rfl | h
    · exact .inl hz
    · exact .inr (ih h z hz)
theorem opens_slice {d : Kd α} {t e : TypeId} {wf : α → Prop} (ht : P.underlying t = some (.slice e)) (hC : P.cellsOf e = d.sz) (he : Opens P W d e wf) :
    Opens P W (Kd.slice e d) t (fun xs => xs.length ≤ maxLen ∧ xs.length * P.bytesOf e ≤ reachBytes ∧ ∀ x ∈ xs, wf x) := by
  intro H enc fuel cs D pl h hz
  rcases open_slice ht h with ⟨rfl, e1⟩ | ⟨a, len, cap, m, n, D', Pl, rfl, hb, hl, hm, hmm, hx, hi⟩
  · cases e1
    exact ⟨[], ⟨none, 0, rfl, Nat.le_refl _, rfl, Nat.zero_le _, fun z => absurd z (Nat.lt_irrefl 0)⟩, by simp, by simp, by simp⟩
  · have hlm : len ≤ m := by rw [hmm]; split <;> omega
    simp only [Prod.mk.injEq] at hx
    unfold Light at hz
    rw [hx.1, DataW.weights, ht] at hz
    simp only [] at hz
    obtain ⟨xs, hxl, hxs⟩ := choose_list (Q := fun i (x : α) => ∃ cs', W.cells? 0 (a.add (i * P.cellsOf e)) (P.cellsOf e) = some cs' ∧ d.K W x cs' ∧ wf x) len (fun i hil => by
      obtain ⟨cs', h1, h2⟩ := hi i (by omega)
      obtain ⟨x, h3, h4⟩ := he H enc n cs' (D' i) (Pl i) h2 (fun z hzz => hz z (List.mem_cons_of_mem _ (List.mem_append_left _ (all_mem (List.mem_map.2 ⟨i, List.mem_range.2 hil, rfl⟩) z hzz))))
      exact ⟨x, cs', h1, h3, h4⟩)
    have hlen := hz _ (List.mem_cons_self ..)
    rw [List.length_map, List.length_range] at hlen
    refine ⟨xs, ⟨some a, cap, by rw [hxl], by rw [hxl]; exact hl, by rw [hxl], by rw [hxl]; have := hl; unfold maxLen at hm; omega, fun _ => ⟨a, rfl, fun j p hp => ?_⟩⟩, by rw [hxl]; omega, by rw [hxl]; exact Nat.le_trans (Nat.mul_le_mul_right _ (Nat.le_add_right _ _)) hlen, fun x hx => ?_⟩
    · obtain ⟨cs', h1, h2, -⟩ := hxs j p hp
      rw [hC] at h1
      obtain ⟨_, hcl, hat⟩ := World.cells?_some h1
      refine ⟨cs', hcl, h2, fun i u hu => ?_⟩
      have hil : i < d.sz := by have := (List.getElem?_eq_some_iff.1 hu).1; omega
      have := hat i hil
      rw [← Go.Deep.add_add, this, hu]
    · obtain ⟨i, hi', rfl⟩ := List.mem_iff_getElem.1 hx
      obtain ⟨cs', -, -, h4⟩ := hxs i _ (List.getElem?_eq_getElem hi')
      exact h4
theorem opens_iso {d : Kd α} {t : TypeId} {wf : α → Prop} (h : Opens P W d t wf) (f : β → α) (g : α → β) (hfg : ∀ a, f (g a) = a) : Opens P W (Kd.iso d f) t (fun x => wf (f x)) := by
  intro H enc fuel cs D pl hh hz
  obtain ⟨a, h1, h2⟩ := h H enc fuel cs D pl hh hz
  exact ⟨g a, by show d.K W (f (g a)) cs; rw [hfg]; exact h1, by show wf (f (g a)); rw [hfg]; exact h2⟩
theorem opens_mono {d : Kd α} {t : TypeId} {wf wf' : α → Prop} (h : Opens P W d t wf) (hw : ∀ a, wf a → wf' a) : Opens P W d t wf' := by
  intro H enc fuel cs D pl hh hz
  obtain ⟨a, h1, h2⟩ := h H enc fuel cs D pl hh hz
  exact ⟨a, h1, hw a h2⟩
/-- A struct's fields from a place on. -/
def OpensF (P : Program) (W : World) (d : Kd α) (fs : List Field) (off : Nat) (wf : α → Prop) : Prop :=
  ∀ (H : Type) (enc : TypeId × Value → H) (n : Nat) (cs : List Value) (xs : List (DataW H × List MemPlace)), cs.length = off + d.sz → xs.length = fs.length →
    (∀ (i : Nat) (f : Field), fs[i]? = some f → DataW.trod enc P W 0 (fun _ => true) true n f.type ((cs.drop f.offset).take (P.cellsOf f.type)) = xs[i]?) →
    (∀ z ∈ DataW.weightsEach P (fs.map (·.type)) (xs.map (·.1)), z ≤ reachBytes) →
    ∃ a : α, d.K W a (cs.drop off) ∧ wf a
theorem opensF_one {d : Kd α} {f : Field} {off : Nat} {wf : α → Prop} (h : Opens P W d f.type wf) (ho : f.offset = off) (hC : P.cellsOf f.type = d.sz) : OpensF P W d [f] off wf := by
  intro H enc n cs xs hl hxl hf hz
  match xs, hxl with
  | [(D, pl)], _ =>
    have h0 := hf 0 f rfl
    rw [ho, hC, List.take_of_length_le (by simp [hl])] at h0
    exact h H enc n _ D pl h0 (fun z hzz => hz z (by simp only [List.map_cons, List.map_nil, DataW.weightsEach]; exact List.mem_append_left _ hzz))
theorem opensF_cons {d : Kd α} {d' : Kd β} {f : Field} {fs : List Field} {off : Nat} {wf : α → Prop} {wf' : β → Prop} (h : Opens P W d f.type wf) (ho : f.offset = off) (hC : P.cellsOf f.type = d.sz) (ht : OpensF P W d' fs (off + d.sz) wf') :
    OpensF P W (Kd.pair d d') (f :: fs) off (fun x => wf x.1 ∧ wf' x.2) := by
  intro H enc n cs xs hl hxl hf hz
  match xs, hxl with
  | (D, pl) :: ys, hxl =>
    have h0 := hf 0 f rfl
    rw [ho, hC] at h0
    simp only [List.map_cons, DataW.weightsEach] at hz
    obtain ⟨a, h1, h2⟩ := h H enc n _ D pl h0 (fun z hzz => hz z (List.mem_append_left _ hzz))
    obtain ⟨b, g1, g2⟩ := ht H enc n cs ys (by have : (Kd.pair d d').sz = d.sz + d'.sz := rfl; omega) (by simpa using hxl) (fun i f' hf' => by
      have := hf (i + 1) f' (by simpa using hf')
      simpa using this) (fun z hzz => hz z (List.mem_append_right _ hzz))
    refine ⟨(a, b), ⟨_, _, ?_, h1, g1⟩, h2, g2⟩
    rw [← List.drop_drop, List.take_append_drop]
theorem opens_struct {d : Kd α} {t : TypeId} {fs : Array Field} {wf : α → Prop} (ht : P.underlying t = some (.struct fs)) (hC : P.cellsOf t = d.sz) (h : OpensF P W d fs.toList 0 wf) : Opens P W d t wf := by
  intro H enc fuel cs D pl hh hz
  obtain ⟨xs, n, _, hx, hl, hxl, hf⟩ := DataW.trod_struct ht hh
  simp only [Prod.mk.injEq] at hx
  unfold Light at hz
  rw [hx.1, DataW.weights, ht] at hz
  exact h H enc n cs xs (by rw [hl, hC]; omega) (by simpa using hxl) (fun i f hi => hf i f (by simpa using hi)) hz
/-! ### parameters -/
theorem light_at {H : Type} {ts : List TypeId} {ds : List (DataW H)} (h : (DataW.weightsEach P ts ds).all (· ≤ reachBytes) = true) {j : Nat} {t : TypeId} {D : DataW H} (ht : ts[j]? = some t) (hd : ds[j]? = some D) : Light P t D := by
  intro z hz
  have := List.all_eq_true.1 h _ (DataW.weights_mem_each ht hd z hz)
  simpa using this
theorem param_slice {H : Type} {enc : TypeId × Value → H} {d : Kd α} {t e : TypeId} {wf : List α → Prop} {r : Reach} {base : Nat} {v : Value} {D : DataW H} {p : List MemPlace} (ht : P.underlying t = some (.slice e)) (ho : Opens P W (Kd.slice e d) t wf)
    (hv : Value.okWide P W r base t v) (h : DataW.Trod enc P W 0 (fun _ => true) true t v D p) (hz : Light P t D) : ∃ (xs : List α) (A : Option Addr) (c : Nat), v = .slice A xs.length c ∧ d.C W A xs.length xs ∧ xs.length ≤ c ∧ wf xs := by
  obtain ⟨A0, n0, c0, rfl⟩ := okWide_slice ht hv
  obtain ⟨fuel, hf⟩ := h
  obtain ⟨xs, ⟨A, c, e, hc, hr⟩, hw⟩ := ho H enc fuel _ D p hf hz
  simp only [Value.cells, List.cons.injEq, and_true] at e
  exact ⟨xs, A, c, e, hr, hc, hw⟩
end Go.Proofs.YtciolchdihlgfaaGreatDoor.RowW
