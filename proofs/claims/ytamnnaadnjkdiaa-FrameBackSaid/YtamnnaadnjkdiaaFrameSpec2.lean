import Derived.Test.YtamnnaadnjkdiaaFrameSpec
namespace Go.Proofs.Ytamnnaadnjkdiaa.Frame
open Go.RowKit Go.Proofs.YtamnnaadnjkdiaaW.PrintWords Go.Proofs.YtamnnaadnjkdiaaW.PrintLast Go.Proofs.YtamnnaadnjkdiaaW.PrintMore Go.Proofs.Ytamnnaadnjkdiaa.Wire Go.Proofs.Ytamnnaadnjkdiaa.Crc
set_option linter.unusedVariables false
set_option linter.unusedSimpArgs false

theorem fnext_ok {l : List Int} (hb : Bytes l) (h : (fnext l).2.2.2 = 0) : ∃ n : Nat, (fnext l).2.2.1 = n ∧ 1 ≤ n ∧ n ≤ l.length := by
  unfold fnext at h ⊢
  by_cases h1 : l.length = 0
  · rw [if_pos h1] at h; exact absurd h (by decide)
  rw [if_neg h1] at h ⊢
  by_cases h2 : 2 < rd l 0
  · rw [if_pos h2] at h; exact absurd h (by decide)
  rw [if_neg h2] at h ⊢
  by_cases h3 : (gb (l.drop 1) 1048576).2.2 = 0
  · rw [if_pos h3] at h ⊢
    obtain ⟨n, e, hn, -⟩ := gb_ok (hb.drop 1) h3
    by_cases h4 : (l.length : Int) < 1 + (gb (l.drop 1) 1048576).2.1 + 4
    · rw [if_pos h4] at h; exact absurd h (by decide)
    rw [if_neg h4] at h ⊢
    by_cases h5 : opened (l.take (1 + (gb (l.drop 1) 1048576).2.1 + 4).toNat)
    · rw [if_pos h5]
      dsimp only
      exact ⟨n + 5, by omega, by omega, by omega⟩
    · rw [if_neg h5] at h; exact absurd h (by decide)
  · rw [if_neg h3] at h; exact absurd h h3
/-- All frames from a place on, in so many steps. -/
def fa (l : List Int) : Nat → Nat → List (Int × List Int × Int) × Int × Int
  | 0, at_ => ([], (at_ : Int), 0)
  | d + 1, at_ => if at_ < l.length then
      (if (fnext (l.drop at_)).2.2.2 = 0 then
        (((fnext (l.drop at_)).1, (fnext (l.drop at_)).2.1, (at_ : Int)) :: (fa l d (at_ + (fnext (l.drop at_)).2.2.1.toNat)).1, (fa l d (at_ + (fnext (l.drop at_)).2.2.1.toNat)).2)
       else ([], (at_ : Int), (fnext (l.drop at_)).2.2.2))
    else ([], (at_ : Int), 0)
theorem fa_le (l : List Int) : ∀ d at_, (fa l d at_).1.length ≤ d
  | 0, _ => Nat.le_refl _
  | d + 1, at_ => by
    have := fa_le l d (at_ + (fnext (l.drop at_)).2.2.1.toNat)
    rw [fa]
    split
    · split
      · simp only [List.length_cons]; omega
      · simp
    · simp

/-! ### Frames, one behind the other -/
def cat (f : Nat → Int × List Int) : Nat → List Int
  | 0 => []
  | n + 1 => cat f n ++ fput (f n).1 (f n).2
def pos (f : Nat → Int × List Int) (n : Nat) : Nat := (cat f n).length
def Fine (f : Nat → Int × List Int) (N : Nat) : Prop := ∀ i, i < N → 0 ≤ (f i).1 ∧ (f i).1 ≤ 2 ∧ (f i).2.length ≤ 1048576 ∧ Bytes (f i).2
theorem pos_succ (f : Nat → Int × List Int) (n : Nat) : pos f (n + 1) = pos f n + (fput (f n).1 (f n).2).length := by
  unfold pos; rw [cat, List.length_append]
theorem cat_split (f : Nat → Int × List Int) (i : Nat) : ∀ m, ∃ r, cat f (i + m) = cat f i ++ r
  | 0 => ⟨[], by simp⟩
  | m + 1 => by
    obtain ⟨r, hr⟩ := cat_split f i m
    exact ⟨r ++ fput (f (i + m)).1 (f (i + m)).2, by rw [← Nat.add_assoc, cat, hr, List.append_assoc]⟩
theorem cat_bytes {f : Nat → Int × List Int} {N : Nat} (h : Fine f N) : Bytes (cat f N) := by
  induction N with
  | zero => intro c hc; cases hc
  | succ n ih =>
    rw [cat]
    obtain ⟨h0, h1, h2, h3⟩ := h n (by omega)
    exact (ih fun i hi => h i (by omega)).app (fput_bytes h0 h1 h3)
def at3 (f : Nat → Int × List Int) (i : Nat) : Int × List Int × Int := ((f i).1, (f i).2, (pos f i : Int))
theorem fa_cat {f : Nat → Int × List Int} {N : Nat} (h : Fine f N) (t l : List Int) (hl : l = cat f N ++ t) (ht : t = [] ∨ fnext t = (0, [], 0, 5)) :
    ∀ m i d, i + m = N → m + 1 ≤ d → fa l d (pos f i) = ((List.range' i m).map (at3 f), (pos f N : Int), if t = [] then 0 else 5) := by
  intro m
  induction m with
  | zero =>
    intro i d hi hd
    obtain ⟨d, rfl⟩ : ∃ e, d = e + 1 := ⟨d - 1, by omega⟩
    obtain rfl : i = N := by omega
    rw [fa]
    have hp : l.length = pos f i + t.length := by rw [hl, List.length_append]; rfl
    have hdrop : l.drop (pos f i) = t := by rw [hl]; exact List.drop_left' rfl
    by_cases hne : t = []
    · subst hne
      rw [if_neg (by rw [hp, List.length_nil]; omega), if_pos rfl]; rfl
    · have ht : fnext t = (0, [], 0, 5) := ht.resolve_left hne
      have hpos : 0 < t.length := List.length_pos_iff.mpr hne
      rw [if_pos (by omega), hdrop, ht, if_neg (by decide), if_neg hne]; rfl
  | succ m ih =>
    intro i d hi hd
    obtain ⟨d, rfl⟩ : ∃ e, d = e + 1 := ⟨d - 1, by omega⟩
    obtain ⟨h0, h1, h2, h3⟩ := h i (by omega)
    obtain ⟨r, hr⟩ := cat_split f (i + 1) m
    rw [show i + 1 + m = N by omega, cat] at hr
    have hdrop : l.drop (pos f i) = fput (f i).1 (f i).2 ++ (r ++ t) := by
      rw [hl, hr, List.append_assoc, List.append_assoc]; exact List.drop_left' rfl
    have hlen : l.length = pos f i + ((fput (f i).1 (f i).2).length + (r.length + t.length)) := by
      rw [hl, hr]; simp only [List.length_append]; unfold pos; omega
    have hfl := fput_len (f i).1 (f i).2
    rw [fa, if_pos (by omega), hdrop, next_put h0 h1 h2, if_pos rfl, Int.toNat_natCast, ← pos_succ, ih (i + 1) d (by omega) (by omega)]
    rfl
theorem pos_mono (f : Nat → Int × List Int) (n : Nat) : n ≤ pos f n := by
  induction n with
  | zero => omega
  | succ n ih => rw [pos_succ, fput_len]; omega
end Go.Proofs.Ytamnnaadnjkdiaa.Frame
