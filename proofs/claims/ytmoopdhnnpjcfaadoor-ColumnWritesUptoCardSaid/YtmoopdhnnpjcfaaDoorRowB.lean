import Derived.Test.YtmoopdhnnpjcfaaDoorRowA
import Derived.Test.YtmoopdhnnpjcfaaDoorWMore
import Derived.Test.YtmoopdhnnpjcfaaDoorRows
import Derived.Deep.Slices
/-! Arguments of any depth, opened as the print's kinds read them; their bulk. -/
namespace Go.Proofs.YtmoopdhnnpjcfaaDoor.RowB
open Go.ChangeShapes Go.WideShapes Go.ChangeAt Go.RowKit Go.Deep Go.Proofs.YtmoopdhnnpjcfaaDoorW.PrintWords
set_option linter.unusedVariables false
set_option linter.unusedSimpArgs false
variable {P : Program} {W : World} {α β : Type}
def Opens (P : Program) (W : World) (d : Kd α) (t : TypeId) (wf : α → Prop) (bulk : α → Nat) : Prop :=
  ∀ (H : Type) (enc : TypeId × Value → H) (fuel : Nat) (cs : List Value) (D : DataW H) (pl : List MemPlace), DataW.trod enc P W 0 (fun _ => true) true fuel t cs = some (D, pl) → ∃ a : α, d.K W a cs ∧ wf a ∧ bulk a ≤ Rows.uptoBulk D
theorem opens_int {t : TypeId} {k : IntKind} (ht : P.underlying t = some (.int k)) : Opens P W (Kd.int k) t (fun z => (Lit.int k z).wf = true) (fun _ => 1) := by
  intro H enc fuel cs D pl h
  obtain ⟨n, rfl, e, w⟩ := DataW.trod_int ht h
  cases e
  exact ⟨n, rfl, w, by simp [Rows.uptoBulk]⟩
theorem opens_bool {t : TypeId} (ht : P.underlying t = some .bool) : Opens P W Kd.bool t (fun _ => True) (fun _ => 1) := by
  intro H enc fuel cs D pl h
  obtain ⟨n, rfl, e⟩ := DataW.trod_bool ht h
  cases e
  exact ⟨n, rfl, trivial, by simp [Rows.uptoBulk]⟩
theorem opens_string {t : TypeId} (ht : P.underlying t = some .string) : Opens P W Kd.string t (fun s => s.size ≤ maxLen) (fun s => s.size + 1) := by
  intro H enc fuel cs D pl h
  obtain ⟨n, rfl, e, w⟩ := DataW.trod_string ht h
  cases e
  exact ⟨n, rfl, w, by simp only [Rows.uptoBulk, Array.length_toList]; exact Nat.le_refl _⟩
theorem choose_list {Q : Nat → α → Prop} (n : Nat) (h : ∀ i, i < n → ∃ a, Q i a) : ∃ xs : List α, xs.length = n ∧ ∀ i a, xs[i]? = some a → Q i a := by
  induction n with
  | zero => exact ⟨[], rfl, fun i a z => by simp at z⟩
  | succ n ih =>
    obtain ⟨xs, hl, hx⟩ := ih fun i hi => h i (by omega)
    obtain ⟨a, ha⟩ := h n (by omega)
    refine ⟨xs ++ [a], by simp [hl], fun i b hb => ?_⟩
    by_cases hi : i < n
    · rw [List.getElem?_append_left (by omega)] at hb
      exact hx i b hb
    · have hlt := (List.getElem?_eq_some_iff.1 hb).1
      have : i = n := by simp [hl] at hlt; omega
      subst this
      rw [List.getElem?_append_right (by omega), hl, Nat.sub_self] at hb
      simp at hb
      subst hb
      exact ha
theorem bulk_range {H : Type} {bulk : α → Nat} (D : Nat → DataW H) : ∀ (xs : List α) (o : Nat), (∀ i a, xs[i]? = some a → bulk a ≤ Rows.uptoBulk (D (o + i))) → (xs.map bulk).sum ≤ Rows.uptoBulkAll ((List.range' o xs.length).map D)
  | [], o, h => by simp [Rows.uptoBulkAll]
  | a :: t, o, h => by
    have h0 := h 0 a rfl
    have ht := bulk_range D t (o + 1) fun i b hb => by
      have := h (i + 1) b (by simpa using hb)
      rwa [show o + (i + 1) = o + 1 + i by omega] at this
    simp only [List.map_cons, List.sum_cons, List.length_cons, List.range'_succ, Rows.uptoBulkAll]
    rw [Nat.add_zero] at h0
    omega
theorem opens_slice {d : Kd α} {t e : TypeId} {wf : α → Prop} {bulk : α → Nat} (ht : P.underlying t = some (.slice e)) (hC : P.cellsOf e = d.sz) (he : Opens P W d e wf bulk) :
    Opens P W (Kd.slice e d) t (fun xs => xs.length ≤ maxLen ∧ ∀ x ∈ xs, wf x) (fun xs => (xs.map bulk).sum + 1) := by
  intro H enc fuel cs D pl h
  rcases open_slice ht h with ⟨rfl, e1⟩ | ⟨a, len, cap, m, n, D', Pl, rfl, hb, hl, hm, hmm, hx, hi⟩
  · cases e1
    refine ⟨[], ⟨none, 0, rfl, Nat.le_refl _, rfl, Nat.zero_le _, fun z => absurd z (Nat.lt_irrefl 0)⟩, ⟨by simp, by simp⟩, by simp [Rows.uptoBulk]⟩
  · have hlm : len ≤ m := by rw [hmm]; split <;> omega
    obtain ⟨xs, hxl, hxs⟩ := choose_list (Q := fun i (x : α) => ∃ cs', W.cells? 0 (a.add (i * P.cellsOf e)) (P.cellsOf e) = some cs' ∧ d.K W x cs' ∧ wf x ∧ bulk x ≤ Rows.uptoBulk (D' i)) len (fun i hil => by
      obtain ⟨cs', h1, h2⟩ := hi i (by omega)
      obtain ⟨x, h3, h4, h5⟩ := he H enc n cs' (D' i) (Pl i) h2
      exact ⟨x, cs', h1, h3, h4, h5⟩)
    simp only [Prod.mk.injEq] at hx
    refine ⟨xs, ⟨some a, cap, by rw [hxl], by rw [hxl]; exact hl, by rw [hxl], by rw [hxl]; have := hl; unfold maxLen at hm; omega, fun _ => ⟨a, rfl, fun j p hp => ?_⟩⟩, ⟨by rw [hxl]; omega, fun x hx => ?_⟩, ?_⟩
    · obtain ⟨cs', h1, h2, -⟩ := hxs j p hp
      rw [hC] at h1
      obtain ⟨_, hcl, hat⟩ := World.cells?_some h1
      refine ⟨cs', hcl, h2, fun i u hu => ?_⟩
      have hil : i < d.sz := by have := (List.getElem?_eq_some_iff.1 hu).1; omega
      have := hat i hil
      rw [← Go.Deep.add_add, this, hu]
    · obtain ⟨i, hi', rfl⟩ := List.mem_iff_getElem.1 hx
      obtain ⟨cs', -, -, h4, -⟩ := hxs i _ (List.getElem?_eq_getElem hi')
      exact h4
    · rw [hx.1]
      have := bulk_range (bulk := bulk) D' xs 0 (fun i x hx => by
        obtain ⟨cs', -, -, -, h5⟩ := hxs i x hx
        rwa [Nat.zero_add])
      rw [hxl, ← List.range_eq_range'] at this
      simp only [Rows.uptoBulk]
      omega
theorem opens_iso {d : Kd α} {t : TypeId} {wf : α → Prop} {bulk : α → Nat} (h : Opens P W d t wf bulk) (f : β → α) (g : α → β) (hfg : ∀ a, f (g a) = a) : Opens P W (Kd.iso d f) t (fun x => wf (f x)) (fun x => bulk (f x)) := by
  intro H enc fuel cs D pl hh
  obtain ⟨a, h1, h2, h3⟩ := h H enc fuel cs D pl hh
  exact ⟨g a, by show d.K W (f (g a)) cs; rw [hfg]; exact h1, by show wf (f (g a)); rw [hfg]; exact h2, by show bulk (f (g a)) ≤ _; rw [hfg]; exact h3⟩
theorem opens_mono {d : Kd α} {t : TypeId} {wf wf' : α → Prop} {bulk bulk' : α → Nat} (h : Opens P W d t wf bulk) (hw : ∀ a, wf a → wf' a) (hb : ∀ a, bulk' a ≤ bulk a) : Opens P W d t wf' bulk' := by
  intro H enc fuel cs D pl hh
  obtain ⟨a, h1, h2, h3⟩ := h H enc fuel cs D pl hh
  exact ⟨a, h1, hw a h2, Nat.le_trans (hb a) h3⟩
/-- A struct's fields from a place on. -/
def OpensF (P : Program) (W : World) (d : Kd α) (fs : List Field) (off : Nat) (wf : α → Prop) (bulk : α → Nat) : Prop :=
  ∀ (H : Type) (enc : TypeId × Value → H) (n : Nat) (cs : List Value) (xs : List (DataW H × List MemPlace)), cs.length = off + d.sz → xs.length = fs.length →
    (∀ (i : Nat) (f : Field), fs[i]? = some f → DataW.trod enc P W 0 (fun _ => true) true n f.type ((cs.drop f.offset).take (P.cellsOf f.type)) = xs[i]?) →
    ∃ a : α, d.K W a (cs.drop off) ∧ wf a ∧ bulk a ≤ Rows.uptoBulkAll (xs.map (·.1))
theorem opensF_one {d : Kd α} {f : Field} {off : Nat} {wf : α → Prop} {bulk : α → Nat} (h : Opens P W d f.type wf bulk) (ho : f.offset = off) (hC : P.cellsOf f.type = d.sz) : OpensF P W d [f] off wf bulk := by
  intro H enc n cs xs hl hxl hf
  match xs, hxl with
  | [(D, pl)], _ =>
    have h0 := hf 0 f rfl
    rw [ho, hC, List.take_of_length_le (by simp [hl])] at h0
    obtain ⟨a, h1, h2, h3⟩ := h H enc n _ D pl h0
    exact ⟨a, h1, h2, by simp only [List.map_cons, List.map_nil, Rows.uptoBulkAll]; omega⟩
theorem opensF_cons {d : Kd α} {d' : Kd β} {f : Field} {fs : List Field} {off : Nat} {wf : α → Prop} {bulk : α → Nat} {wf' : β → Prop} {bulk' : β → Nat} (h : Opens P W d f.type wf bulk) (ho : f.offset = off) (hC : P.cellsOf f.type = d.sz) (ht : OpensF P W d' fs (off + d.sz) wf' bulk') :
    OpensF P W (Kd.pair d d') (f :: fs) off (fun x => wf x.1 ∧ wf' x.2) (fun x => bulk x.1 + bulk' x.2) := by
  intro H enc n cs xs hl hxl hf
  match xs, hxl with
  | (D, pl) :: ys, hxl =>
    have h0 := hf 0 f rfl
    rw [ho, hC] at h0
    obtain ⟨a, h1, h2, h3⟩ := h H enc n _ D pl h0
    obtain ⟨b, g1, g2, g3⟩ := ht H enc n cs ys (by have : (Kd.pair d d').sz = d.sz + d'.sz := rfl; omega) (by simpa using hxl) (fun i f' hf' => by
      have := hf (i + 1) f' (by simpa using hf')
      simpa using this)
    refine ⟨(a, b), ⟨_, _, ?_, h1, g1⟩, ⟨h2, g2⟩, by simp only [List.map_cons, Rows.uptoBulkAll]; omega⟩
    rw [← List.drop_drop, List.take_append_drop]
theorem opens_struct {d : Kd α} {t : TypeId} {fs : Array Field} {wf : α → Prop} {bulk : α → Nat} (ht : P.underlying t = some (.struct fs)) (hC : P.cellsOf t = d.sz) (h : OpensF P W d fs.toList 0 wf bulk) : Opens P W d t wf (fun x => bulk x + 1) := by
  intro H enc fuel cs D pl hh
  obtain ⟨xs, n, _, hx, hl, hxl, hf⟩ := DataW.trod_struct ht hh
  simp only [Prod.mk.injEq] at hx
  obtain ⟨a, h1, h2, h3⟩ := h H enc n cs xs (by rw [hl, hC]; omega) (by simpa using hxl) (fun i f hi => hf i f (by simpa using hi))
  exact ⟨a, h1, h2, by rw [hx.1]; simp only [Rows.uptoBulk]; omega⟩
/-! ### parameters -/
theorem param_slice {H : Type} {enc : TypeId × Value → H} {d : Kd α} {t e : TypeId} {wf : List α → Prop} {bulk : List α → Nat} {r : Reach} {base : Nat} {v : Value} {D : DataW H} {p : List MemPlace} (ht : P.underlying t = some (.slice e)) (ho : Opens P W (Kd.slice e d) t wf bulk)
    (hv : Value.okWide P W r base t v) (h : DataW.Trod enc P W 0 (fun _ => true) true t v D p) : ∃ (xs : List α) (A : Option Addr) (c : Nat), v = .slice A xs.length c ∧ d.C W A xs.length xs ∧ xs.length ≤ c ∧ wf xs ∧ bulk xs ≤ Rows.uptoBulk D := by
  obtain ⟨A0, n0, c0, rfl⟩ := okWide_slice ht hv
  obtain ⟨fuel, hf⟩ := h
  obtain ⟨xs, ⟨A, c, e, hc, hr⟩, hw, hb⟩ := ho H enc fuel _ D p hf
  simp only [Value.cells, List.cons.injEq, and_true] at e
  exact ⟨xs, A, c, e, hr, hc, hw, hb⟩
theorem sum_part {bulk : α → Nat} {xs : List α} {x : α} (h : x ∈ xs) : bulk x ≤ (xs.map bulk).sum := by
  induction xs with
  | nil => cases h
  | cons a t ih =>
    simp only [List.map_cons, List.sum_cons]
    rcases List.mem_cons.1 h with rfl | h
    · omega
    · have := ih h; omega
theorem sum_len {bulk : α → Nat} {xs : List α} (h : ∀ x ∈ xs, 1 ≤ bulk x) : xs.length ≤ (xs.map bulk).sum := by
  induction xs with
  | nil => simp
  | cons a t ih =>
    have h1 := h a (List.mem_cons_self ..)
    have := ih fun x hx => h x (List.mem_cons_of_mem _ hx)
    simp only [List.map_cons, List.sum_cons, List.length_cons]
    omega
end Go.Proofs.YtmoopdhnnpjcfaaDoor.RowB
